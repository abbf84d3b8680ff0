/- Lemmas. -/
import Derived.Test.YtehimhbgakpenaaGreatam
import Derived.Test.YtehimhbgakpenaaGreatal
import Derived.Test.YtehimhbgakpenaaGreatae
import Derived.Test.YtehimhbgakpenaaGreatan
set_option linter.all false
set_option maxRecDepth 100000
set_option maxHeartbeats 16000000
namespace Go.Proofs.YtehimhbgakpenaaGreat.He
open Go.RowKit Go.Maps Go.Sort Go.Proofs.Tryz
def Dd(w:World)(o o':Obj):cI w ((w.alloc o).alloc o'):=(kQ w o).alloc (by simp) o'
def DC(seen:Bool)(hold:Int)(w:World) :
  Calls prog 139 #[.bool seen,.int .i64 hold] w fun e w'=>e= .returned (.agg #[.int .i64 (if seen then 2 else 1),.int .i64 hold])∧cI w w':=by
 cases seen
 all_goals
  go_in;go_wp2;refine dc (by simp[results,results139,go_sem];rfl) rfl ⟨by simp,kQ _ _⟩
def zI(p l q m:Int)(w:World) :
  Calls prog 98 #[.agg #[p,l],.agg #[q,m]] w fun e w'=>e= .returned (.int .i64 (oz p q))∧cI w w':=by
 go_in;go_wp2
 all_goals
  go_ret;refine⟨tR ?_,Dd _ _ _⟩
  simp_all[oz]
def Rl{p l n:Int}(hv:0≤l∧l≤65536∧0≤p∧p≤2∧(p=0↔l=0))(k:Nat)(h:l≤k)(hk:k≤n∨k=0):vc p l n=0∧Bp p l n=0:=by
 unfold vc Bp
 by_cases h1:n≤0∨p=0
 ·rw[cR h1,cR h1];omega
 ·rw[cN h1,cN h1,cR (by omega),cR (by omega)];omega
def Rj{p l n:Int}(hv:0≤l∧l≤65536∧0≤p∧p≤2∧(p=0↔l=0))(k:Nat)(h:¬l≤k)(hk:k≤n∨k=0)(hn:n≤k):vc p l n=p∧Bp p l n=l - k:=by
 unfold vc Bp
 by_cases h1:n≤0∨p=0
 ·rw[cR h1,cR h1];omega
 ·rw[cN h1,cN h1,cN (by omega),cN (by omega)];omega
def qA(p l n:Int)(w:World)(h:vQ p l=true)(hn:n≤9223372036854775807) :
  Calls prog 97 #[.agg #[.int .i64 p,l],n] w fun e w'=>e= .returned (.agg #[.int .i64 (vc p l n),.int .i64 (Bp p l n)])∧cI w w':=by
 have hv:=Hc h;clear h;go_in;go_wp2;go_loopw [5] (fun v5 wr=>∃k:Nat,v5= .int .i64 k∧(k≤n∨k=0)∧k≤65536∧fq wr w [.int .i64 (if l≤k then 0 else p),.int .i64 (if l≤k then 0 else l - k)]∧fq wr (w.heap.size+1) [i0,i0]∧cI w wr)
  (fun v5 _=>65536 - (intOf v5).toNat)
 case atStart=>
  refine⟨0,rfl,.inr rfl,by omega,?_,?_,Dd _ _ _⟩
  ·have:=(fq.new w #[.int .i64 p,l] 72).alloc (.cells #[i0,i0] 72)
   by_cases h0:l=0
   ·have hp:p=0:=by omega
    subst h0 hp;simpa using this
   ·have h1:¬l≤0:=by omega
    simpa[h1]using this
  ·exact fq.iE _ _ _ _ _ (by simp) rfl
 case round=>
  obtain⟨k,rfl,b,g,B0,B1,hb⟩:=hrel;have d0:=B1.c 0 rfl;have d1:=B1.c 1 rfl;have g0:=B1.f 0 rfl;have g1:=B1.f 1 rfl
  by_cases hlk:l≤k
  ·rw[cR hlk,cR hlk]at B0;obtain⟨t1,t2⟩:=Rl hv k hlk b;have c0:=B0.c 0 rfl;have c1:=B0.c 1 rfl;go_wp2
   all_goals exact dc (v:=.agg #[i0,i0]) (by simp[results,results97,go_sem,d0,d1]) rfl ⟨by first|rfl|rw[t1,t2],(hb.setCell (p:=⟨w.heap.size+1,0,none⟩) cC _).setCell (p:=⟨w.heap.size+1,1,none⟩) cC _⟩
  ·rw[cN hlk,cN hlk]at B0;have c0:=B0.c 0 rfl;have c1:=B0.c 1 rfl;have f0:=B0.f 0 rfl;have f1:=B0.f 1 rfl;have d:0<l - k:=by omega
   by_cases hlt:(k:Int)<n
   ·by_cases hl1:l - k - 1=0
    ·have a:(l - k - 1==0)=true:=by simpa using hl1
     go_wp2;go_roundw
     case rel=>
      have e1:l≤((k+1:Nat):Int):=by omega
      refine⟨k+1,by go_num,by omega,by omega,?_,?_,?_⟩
      ·rw[cR e1,cR e1];exact(B0.set 1 i0 (by simp)).set 0 i0 (by simp)
      ·exact(B1.iX _ (by simp)).iX _ (by simp)
      ·exact(hb.setCell (p:=⟨w,1,none⟩) cj _).setCell (p:=⟨w,0,none⟩) cj _
     case measure=>simp[intOf];omega
    ·have a:(l - k - 1==0)=false:=by simpa using hl1
     go_wp2;go_roundw
     case rel=>
      have e1:¬l≤((k+1:Nat):Int):=by omega
      refine⟨k+1,by go_num,by omega,by omega,?_,?_,?_⟩
      ·rw[cN e1,cN e1];have:=B0.set 1 (.int .i64 (l - k - 1)) (by simp)
       rwa[show l - ((k+1:Nat):Int)=l - k - 1 from by omega]
      ·exact B1.iX _ (by simp)
      ·exact hb.setCell (p:=⟨w,1,none⟩) cj _
     case measure=>simp[intOf];omega
   ·obtain⟨t1,t2⟩:=Rj hv k hlk b (by omega);go_wp2;exact dc (v:=.agg #[.int .i64 p,.int .i64 (l - k)]) (by simp[results,results97,go_sem,d0,d1]) rfl ⟨by first|rfl|rw[t1,t2],(hb.setCell (p:=⟨w.heap.size+1,0,none⟩) cC _).setCell (p:=⟨w.heap.size+1,1,none⟩) cC _⟩
end Go.Proofs.YtehimhbgakpenaaGreat.He
namespace Go.Proofs.YtehimhbgakpenaaGreat
open Go.RowKit Go.Maps Go.Sort Go.Proofs.Tryz
def jC(T:TypeId):Prop:=T=65∨T=74
structure Er (B:Nat) (w w':World):Prop where
 os:w'.os=w.os
 tape:w'.tape=w.tape
 output:w'.output=w.output
 size:w.heap.size≤w'.heap.size
 block:∀k,k<w.heap.size→w'.heap[k]?=w.heap[k]?∨(B≤k∧ ∃T,jC T∧Ty w k T∧Ty w' k T)
section
variable {B:Nat} {w w' w'':World}
def Er.below(hb:Below w.heap.size w w'):Er B w w':=⟨hb.os,hb.tape,hb.output,hb.size,fun k hk=>.inl (hb.block k hk)⟩
def Er.ty(h:Er B w w'){k:Nat}{T:TypeId}(ht:Ty w k T):Ty w' k T:=by
 rcases h.block k (jo ht)with e|⟨_,T',_,e1,e2⟩
 ·obtain⟨cur,fr,e2⟩:=ht;exact⟨cur,fr,e.trans e2⟩
 ·rw[kg ht e1];exact e2
def Er.trans(h:Er B w w')(h2:Er B w' w''):Er B w w'':=by
 refine⟨h2.os.trans h.os,h2.tape.trans h.tape,h2.output.trans h.output,Nat.le_trans h.size h2.size,fun k hk=>?_⟩
 have a:=Nat.lt_of_lt_of_le hk h.size;rcases h.block k hk with e|⟨hB,T,hT,e1,e2⟩
 ·rcases h2.block k a with e'|⟨hB,T,hT,⟨cur,fr,e1⟩,e2⟩
  ·exact .inl (e'.trans e)
  ·exact .inr ⟨hB,T,hT,⟨cur,fr,by rw[←e];exact e1⟩,e2⟩
 ·exact .inr ⟨hB,T,hT,e1,h2.ty e2⟩
def Er.cells{b:Nat}{T:TypeId}(hg:w.grownBy w' (some b))(ht:Ty w b T)(a:Ty w' b T)(hT:jC T)(hB:B≤b):Er B w w':=by
 refine⟨hg.os,hg.tape,hg.output,hg.size,fun k hk=>?_⟩
 by_cases e:k=b
 ·subst e;exact .inr ⟨hB,T,hT,ht,a⟩
 ·exact .inl (hg.block k hk (fun e2=>e (by injection e2)))
def Er.toBelow(h:Er B w w'){B0:Nat}(h0:B0≤B)(hw:B0≤w.heap.size):Below B0 w w' :=
 ⟨h.os,h.tape,h.output,h.size,fun k hk=>by
  rcases h.block k (by omega)with e|⟨e,_⟩
  ·exact e
  ·omega⟩
def Er.typed(h:Er B w w'){k:Nat}{T:TypeId}(ht:Ty w k T)(hT:¬jC T):w'.heap[k]?=w.heap[k]?:=by
 rcases h.block k (jo ht)with e|⟨_,T',hT',e,_⟩
 ·exact e
 ·rw[kg ht e]at hT;exact absurd hT' hT
def Er.mp(h:Er B w w'){k:Nat}(hm:qZ w k):w'.heap[k]?=w.heap[k]?:=by
 rcases h.block k (Uz hm)with e|⟨_,T',hT',e,_⟩
 ·exact e
 ·exact(nB e hm).elim
def Er.Y8(h:Er B w w'){k:Nat}(hk:k<w.heap.size)(hB:k<B):w'.heap[k]?=w.heap[k]?:=by
 rcases h.block k hk with e|⟨e,_⟩
 ·exact e
 ·omega
def Qt:¬jC 4:=by unfold jC;decide
def Pv:¬jC 79:=by unfold jC;decide
def RE:¬jC 109:=by unfold jC;decide
def Oq:¬jC 118:=by unfold jC;decide
def VQ:¬jC 166:=by unfold jC;decide
def J7:¬jC 169:=by unfold jC;decide
def DM:¬jC 181:=by unfold jC;decide
def MY:¬jC 5:=by unfold jC;decide
def Ts:¬jC 3:=by unfold jC;decide
def Wh:¬jC 202:=by unfold jC;decide
def Jk:¬jC 148:=by unfold jC;decide
def Er.rd(h:Er B w w'){A:cG}{xs:cH}{n:Nat}{T:TypeId}(hr:Rd w A xs)(ht:Fd.rV w A n T)(hn:0<xs.length→0<n)(hT:¬jC T):Rd w' A xs:=by
 intro hx;obtain⟨ad,e,hc⟩:=hr hx;have a:Ty w ad.block T:=ht (hn hx) ad e;refine⟨ad,e,fun j u hu=>?_⟩
 have e2:w'.heap[(ad.add j).block]?=w.heap[(ad.add j).block]?:=by rw[fu];exact h.typed a hT
 rw[World.cell?_of_block e2];exact hc j u hu
def Er.MZ(h:Er B w w'){A:cG}{n:Nat}{T:TypeId}(ht:Fd.rV w A n T):Fd.rV w' A n T:=fun hn ad ha=>h.ty (ht hn ad ha)
def Er.tp(h:Er B w w'){T:TypeId}{A:cG}{xs:cH}{n:Nat}(hr:Rd w A xs)(ht:Fd.rV w A n T)(hn:0<xs.length→0<n)(hT:¬jC T):Rd w' A xs∧Fd.rV w' A n T:=⟨h.rd hr ht hn hT,h.MZ ht⟩
def Er.own(h:Er B w w'){base:Nat}{T:TypeId}{size:Nat}{v:Value}{n:Nat}{xs:cH}(ho:w.ownsRow base T size v n xs)(hT:¬jC T):w'.ownsRow base T size v n xs:=by
 refine⟨ho.1,?_⟩
 rcases ho.2 with e|⟨k,cap,cur,rfl,a,hh,r⟩
 ·exact .inl e
 ·exact .inr ⟨k,cap,cur,rfl,a,(h.typed ⟨_,_,hh⟩ hT).trans hh,r⟩
def uf{g:Nat}{cs:cH}(hb:fq w g cs)(e:w'.heap[g]?=w.heap[g]?):fq w' g cs:=fun i u hu=>by
 obtain⟨h1,h2⟩:=hb i u hu;exact⟨(cY (a:=⟨g,i,none⟩) e).trans h1,(eC (a:=⟨g,i,none⟩) e).trans h2⟩
def Er.la(h:Er B w w'){x:La}{A:cG}{c:Nat}{B':cG}{d:Nat}(hl:Fd.sD w x A c B' d):Fd.sD w' x A c B' d:=by
 obtain⟨⟨A',c',B2,d',e,r1,r2,r3⟩,t1,t2⟩:=hl;simp only[ig,eE,eS,dJ,dp,fE,fv]at e;obtain⟨⟨rfl,rfl⟩,rfl,rfl⟩:=e;exact⟨⟨_,_,_,_,rfl,h.rd r1 t1 (by rw[lC];omega) J7,h.rd r2 t2 (by rw[gn];omega) DM,r3⟩,h.MZ t1,h.MZ t2⟩
def Er.Yb(h:Er B w w'){v:Option Value}{x:Option Hd}(he:iu w v x):iu w' v x:=by
 match v,x,he with
 |none,none,_=>trivial
 |some v,some x,⟨A,c1,B',d,e,hl⟩=>exact⟨A,c1,B',d,e,h.la hl⟩
def Er.el(h:Er B w w'){v:Option Value}{x:Option Fd.Hd}(he:Fd.iu w v x):Fd.iu w' v x:=by
 match v,x,he with
 |none,none,_=>trivial
 |some v,some x,⟨A,c1,B',d,e,hl⟩=>exact⟨A,c1,B',d,e,h.la hl⟩
def Er.db(h:Er B w w'){gd b:Nat}{N:Db}(hd:iN w gd b N)(h1:gd<B):iN w' gd b N:=by
 have hm:=h.mp (Az hd);have hg:=h.Y8 hd.lt.1 h1;obtain⟨⟨M,⟨D,⟨es,ck,hb,r⟩,hD⟩,he⟩,c⟩:=hd;exact⟨⟨M,⟨D,⟨es,ck,hm.trans hb,r⟩,hD⟩,fun i hi=>h.Yb (he i hi)⟩,(World.cell?_of_block (a:=⟨gd,0,none⟩) hg).trans c⟩
def Er.FX(h:Er B w w'){B' b:Nat}{M:Int→Option Value}(hm:Fd.dV B' w b M):Fd.dV B' w' b M:=by
 obtain⟨D,⟨es,ck,hb,r⟩,hD⟩:=hm;exact⟨D,⟨es,ck,(h.mp ⟨es,ck,hb⟩).trans hb,r⟩,hD⟩
def Er.fl(h:Er B w w'){gf b:Nat}{iv:Int}{N:Fd.Fn}{f:Nat→Nat}(hf:Fd.fR w gf b iv N f)(h1:gf<B):Fd.fR w' gf b iv N f:=by
 have hg:=h.Y8 hf.lt.1 h1;refine⟨(World.cell?_of_block (a:=⟨gf,0,none⟩) hg).trans hf.c0,(World.cell?_of_block (a:=⟨gf,1,none⟩) hg).trans hf.c1,h.FX hf.nb,fun i hi D hD=>?_,hf.ne,hf.inj⟩
 obtain⟨M,hm,he⟩:=hf.el i hi D hD;exact⟨M,h.FX hm,fun o ho=>h.el (he o ho)⟩
def Er.og(h:Er B w w'){go:Nat}{x:La}{mk:Bool}(ho:jg w go x mk)(ht:MJ w go)(b:Ty w go 166):jg w' go x mk∧MJ w' go:=by
 obtain⟨A,c,B',d,h0,r1,r2,h3,h4,h5,h6,h7,h8,h9⟩:=ho;have t1:Fd.rV w A x.adj.length 169:=fun hn ad ha=>ht.1 A _ c hn (h0.c 1 rfl) ad ha
 have t2:Fd.rV w B' x.pre.length 181:=fun hn ad ha=>ht.2 B' _ d hn (h0.c 2 rfl) ad ha
 have e:=h.typed b VQ;exact ⟨⟨A,c,B',d,uf h0 e,h.rd r1 t1 (by rw [lC]; omega) J7,h.rd r2 t2 (by rw [gn]; omega) DM,h3,h4,h5,h6,h7,h8,h9⟩,
  ⟨fun A n c hn hc ad ha=>h.ty (ht.1 A n c hn (by rw [← World.cell?_of_block (a:=⟨go,1,none⟩) e]; exact hc) ad ha),fun A n c hn hc ad ha=>h.ty (ht.2 A n c hn (by rw [← World.cell?_of_block (a:=⟨go,2,none⟩) e]; exact hc) ad ha)⟩⟩
def fe.er{m:Sm}{S:Sp}{a:Nat→Nat}{c:Nat}(h:fe w m S a c)(he:Er B w w')(h1:m.gd<B)(h2:m.gf<B):fe w' m S a c:=by
 obtain⟨o1,o2⟩:=he.og h.og h.tO h.ty;exact ⟨uf h.bx (he.typed h.tg RE),he.ty h.tg,he.own h.po Oq,he.tp h.rO.1 h.rO.2 (by rw [fN]; exact id) Qt,he.tp h.rL.1 h.rL.2 (by rw [fK]; omega) Pv,he.tp h.rB.1 h.rB.2 (by rw [gn]; omega) DM,h.lB,h.lT,
  he.db h.db h1,he.fl h.fl h2,o1,o2,he.ty h.ty,h.cg,h.cP,h.co,h.cd,h.cf,h.cF,h.z,h.ne,h.c0⟩
end
def Bx(w:World)(g off:Nat)(cs:cH):Prop:=∀i u,cs[i]?=some u→w.cell? ⟨g,off+i,none⟩=some u∧w.frozen? ⟨g,off+i,none⟩=false
section
variable {w w':World} {g off:Nat} {cs:cH}
def Bx.c(h:Bx w g off cs)(i:Nat){u:Value}(hu:cs[i]?=some u)(j:Nat)(hj:off+i=j):w.cell? ⟨g,j,none⟩=some u:=by rw[←hj];exact(h i u hu).1
def Bx.f(h:Bx w g off cs)(i:Nat){u:Value}(hu:cs[i]?=some u)(j:Nat)(hj:off+i=j):w.frozen? ⟨g,j,none⟩=false:=by rw[←hj];exact(h i u hu).2
def Bx.Ef(h:Bx w g off cs)(e:w'.heap[g]?=w.heap[g]?):Bx w' g off cs:=fun i u hu=>by
 obtain⟨h1,h2⟩:=h i u hu;exact⟨(cY (a:=⟨g,off+i,none⟩) e).trans h1,(eC (a:=⟨g,off+i,none⟩) e).trans h2⟩
def Bx.below(h:Bx w g off cs)(hb:cI w w'):Bx w' g off cs:=fun i u hu=>⟨cW hb (h i u hu).1,fL hb (h i u hu).1 (h i u hu).2⟩
def Bx.range(h:Bx w g off cs):w.rangeAt g off cs:=fun j v hv=>(h j v hv).1
def Bx.there(h:Bx w g off cs){n:Nat}(hn:cs.length=n):w.there g off n:=fun j hj=>by
 have:=h j _ (cM (by omega));exact⟨by rw[this.1];rfl,this.2⟩
def Bx.iX(h:Bx w g off cs){g' j:Nat}(u:Value)(hk:g'≠g∨j<off∨off+cs.length≤j):Bx (w.setCell ⟨g',j,none⟩ u) g off cs:=fun i v hv=>by
 have hi:=(dj.1 hv).1;refine⟨?_,by rw[mB];exact(h i v hv).2⟩
 exact(cell_far u (fun e=>by injection e;omega)).trans (h i v hv).1
def Bx.vy(h:Bx w g off cs){g' o:Nat}(vs:cH)(hk:g'≠g∨off+cs.length≤o∨o+vs.length≤off):Bx (w.setCells g' o vs) g off cs:=fun i v hv=>by
 have hi:=(dj.1 hv).1;refine⟨?_,by rw[qn];exact(h i v hv).2⟩
 rw[YK g' vs o w ⟨g,off+i,none⟩ (fun e h2=>by have e':g=g':=e;show off+i<o∨o+vs.length≤off+i;omega)];exact(h i v hv).1
def Bx.set(h:Bx w g off cs)(i:Nat)(u:Value)(hi:i<cs.length){a:cH}(hc:cs.set i u=a)(j:Nat)(hj:off+i=j):Bx (w.setCell ⟨g,j,none⟩ u) g off a:=fun k v hv=>by
 subst hc hj
 by_cases e:i=k
 ·subst e;rw[fX hi]at hv;injection hv with hv
  subst hv;have h0:=h i _ (cM hi);exact⟨fC w _ _ h0.1,by rw[mB];exact h0.2⟩
 ·rw[fU e]at hv;refine⟨?_,by rw[mB];exact(h k v hv).2⟩
  exact(cell_far u (fun e=>by injection e;omega)).trans (h k v hv).1
def Bx.zz(h:Bx w g off cs)(a:cH)(hl:a.length=cs.length):Bx (w.setCells g off a) g off a:=fun i u hu=>by
 refine⟨World.rangeAt_setCells_same w g off a (by rw[hl];exact h.there rfl) i u hu,?_⟩
 rw[qn];exact(h i _ (cM (by have:=(dj.1 hu).1;omega))).2
end
section
variable [Inhabited BY] {w w' w'':World}
def rX(T:TypeId):Prop:=T=169∨T=181∨T=3∨T=202
def Bg(w w':World):Prop:=∀k,k<w.heap.size→((∃T,rX T∧Ty w k T)∨k<lF)→w'.heap[k]?=w.heap[k]?
def Bg.below(hb:cI w w'):Bg w w':=fun k hk _=>hb.block k hk
def Bg.grow{k:Nat}{T:TypeId}(hg:w.grownBy w' (some k))(ht:Ty w k T)(hT:¬rX T)(hB:lF≤k):Bg w w':=fun j hj h=>hg.block j hj fun e=>by
 injection e with e
 subst e;rcases h with ⟨T',a,h⟩|h
 ·rw[kg h ht]at a;exact hT a
 ·omega
def PF{T:TypeId}(h:rX T):¬iU T:=by unfold rX at h;unfold iU;rcases h with rfl|rfl|rfl|rfl<;>decide
def PH{T:TypeId}(h:rX T):¬jC T:=by unfold rX at h;unfold jC;rcases h with rfl|rfl|rfl|rfl<;>decide
def Bg.Ww{E:Nat→Prop}(he:gA E w w')(hb:Below lF w w'):Bg w w':=fun k hk h=>by
 rcases h with ⟨T,hT,ht⟩|h
 ·exact he.typed ht (PF hT)
 ·exact hb.block k h
def nE:¬rX 65:=by unfold rX;decide
def Fj:¬rX 74:=by unfold rX;decide
def Fh:¬rX 184:=by unfold rX;decide
def QB:rX 169:=.inl rfl
def sU:rX 181:=.inr (.inl rfl)
def Ac:rX 3:=.inr (.inr (.inl rfl))
def JL:rX 202:=.inr (.inr (.inr rfl))
def Row.lt{A:cG}{n:Nat}{T:TypeId}(h:Row w A n T){xs:cH}(hr:Rd w A xs)(hx:0<xs.length):∀ad,A=some ad→ad.block<w:=fun ad ha=>by
 obtain⟨ad',e,hb⟩:=hr.block hx;rw[e]at ha;injection ha with ha
 rw[←ha];exact hb
def Rd.kp{A:cG}{xs:cH}{n:Nat}{T:TypeId}(hr:Rd w A xs)(h:Row w A n T)(hT:rX T)(hn:0<n↔0<xs.length)(K:Bg w w'):Rd w' A xs∧Row w' A n T:=by
 refine⟨fun hx=>?_,fun h0 ad ha=>?_⟩
 ·obtain⟨ad,e,hb⟩:=hr.block hx;obtain⟨a,e',hc⟩:=hr hx;rw[e]at e';injection e' with e'
  subst e';refine⟨ad,e,fun j u hu=>?_⟩
  have hh:=K ad.block hb ((h (hn.2 hx) ad e).imp (fun t=>⟨T,hT,t⟩) id);have e2:w'.heap[(ad.add j).block]?=w.heap[(ad.add j).block]?:=by rw[fu];exact hh
  rw[cY e2];exact hc j u hu
 ·have hb:=h.lt hr (hn.1 h0) ad ha;rcases h h0 ad ha with t|t
  ·have e:=K ad.block hb (.inl ⟨T,hT,t⟩);obtain⟨cur,fr,e2⟩:=t;exact .inl ⟨cur,fr,e.trans e2⟩
  ·exact .inr t
def zM{base size:Nat}{T:TypeId}{v:Value}{n:Nat}{xs:cH}(h:w.ownsRow base T size v n xs)(hT:rX T)(K:Bg w w'):w'.ownsRow base T size v n xs:=by
 refine⟨h.1,?_⟩
 rcases h.2 with e|⟨k,cap,cur,rfl,a,hh,r⟩
 ·exact .inl e
 ·exact .inr ⟨k,cap,cur,rfl,a,(K k (h.lt k rfl).2 (.inl ⟨T,hT,_,_,hh⟩)).trans hh,r⟩
def ou{base size:Nat}{T:TypeId}{v:Value}{n:Nat}{xs:cH}(h:w.ownsRow base T size v n xs)(K:∀k,v.ownBlock=some k→w'.heap[k]?=w.heap[k]?):w'.ownsRow base T size v n xs:=by
 refine⟨h.1,?_⟩
 rcases h.2 with e|⟨k,cap,cur,rfl,a,hh,r⟩
 ·exact .inl e
 ·exact .inr ⟨k,cap,cur,rfl,a,(K k rfl).trans hh,r⟩
structure l7 (w:World) (y:La) (A:cG) (c:Nat) (B:cG) (d:Nat):Prop where
 la:eU w (yE y A c B d) y
 rA:Row w A y.adj.length 169
 rB:Row w B y.pre.length 181
variable {y:La} {A:cG} {c:Nat} {B:cG} {d:Nat}
def l7.kp(h:l7 w y A c B d)(K:Bg w w'):l7 w' y A c B d:=by
 obtain⟨⟨A9,c9,B9,d9,e9,r1,r2,r3⟩,rA,rB⟩:=h;simp only[yE,ig,eE,eS,dJ,dp,fE,fv]at e9;obtain⟨⟨rfl,rfl⟩,rfl,rfl⟩:=e9;obtain⟨k1,k2⟩:=r1.kp rA QB (by rw[lC];omega) K;obtain⟨k3,k4⟩:=r2.kp rB sU (by rw[gn];omega) K;exact⟨⟨_,_,_,_,rfl,k1,k3,r3⟩,k2,k4⟩
def l7.below(h:l7 w y A c B d)(hb:cI w w'):l7 w' y A c B d:=h.kp (.below hb)
def l7.ro(h:l7 w y A c B d):Ro.eU w (yE y A c B d) y:=⟨A,c,B,d,rfl,h.la,h.rA,h.rB⟩
def Vt{v:Value}(h:Ro.eU w v y):∃A c B d,v=yE y A c B d∧l7 w y A c B d:=by
 obtain⟨A,c,B,d,e,h1,h2,h3⟩:=h;exact⟨A,c,B,d,e,h1,h2,h3⟩
def l7.of(h:Ro.eU w (yE y A c B d) y):l7 w y A c B d:=by
 obtain⟨A',c',B',d',e,h1,h2,h3⟩:=h;simp only[yE,ig,eE,eS,dJ,dp,fE,fv]at e;obtain⟨⟨rfl,rfl⟩,rfl,rfl⟩:=e;exact⟨h1,h2,h3⟩
def l7.zero(w:World):l7 w dT none 0 none 0:=⟨(fQ w w).at,Row.nil _ _,Row.nil _ _⟩
def HY(p:Po):cH:=[p.l,p.o,p.c,p.bt,p.ph,p.lf]
def BK:List Po→cH
 | []=>[]
 |p :: r=>HY p++BK r
def SK(l:List Po):(BK l).length=l.length*6:=by
 induction l with
 |nil=>rfl
 |cons p r ih=>simp only[BK,HY,cX,List.length_cons,List.length_nil,ih];omega
def HX(a b:List Po):BK (a++b)=BK a++BK b:=by
 induction a with
 |nil=>rfl
 |cons p r ih=>simp only[List.cons_append,BK,ih,dI]
def SQ(l:List Po):∀(k:Nat) (hk:k<l.length) (j:Nat) (hj:j<6),(BK l)[k*6+j]?=(HY l[k])[j]?:=by
 induction l with
 |nil=>intro k hk;simp at hk
 |cons p r ih=>
   intro k hk j hj;have h6:(HY p).length=6:=rfl;cases k with
   |zero=>simp only[BK,List.getElem_cons_zero];rw[eP (by omega)];simp
   |succ k=>
     simp only[BK,List.getElem_cons_succ];rw[dY (by omega),h6,show(k+1)*6+j - 6=k*6+j by omega];exact ih k (by simpa using hk) j hj
def JD(p:Po):∀u∈HY p,u.oneCell'=true:=by
 intro u hu;simp only[HY,dA,eF,ik]at hu;rcases hu with rfl|rfl|rfl|rfl|rfl|rfl<;>rfl
def SJ(l:List Po):∀(k:Nat) (hk:k<l.length) (j:Nat) (hj:j<6) (u:Value) (p:Po) (hp:(HY l[k]).set j u=HY p),(BK l).set (k*6+j) u=BK (l.set k p):=by
 induction l with
 |nil=>intro k hk;simp at hk
 |cons q r ih=>
   intro k hk j hj u p hp;have h6:(HY q).length=6:=rfl;cases k with
   |zero=>
     simp only[List.getElem_cons_zero]at hp;simp only[BK,List.set_cons_zero,pP,iQ];rw[B6 _ _ (by omega),hp]
   |succ k=>
     simp only[List.getElem_cons_succ]at hp;simp only[BK,List.set_cons_succ];rw[iJ _ _ (by omega),h6,show(k+1)*6+j - 6=k*6+j by omega,ih k (by simpa using hk) j hj u p hp]
def gL:Nat:=(default:BY).g
structure Rm where
 P:cG
 cp:Nat
 R:Nat→Rs
 f:Fd.RF
 A:cG
 c:Nat
 B:cG
 d:Nat
 o:Ro.RO
 oA:cG
 oc:Nat
 oB:cG
 od:Nat
 tO:Value
 tL:Value
 Q:cG
 cq:Nat
def qB(m:Rm)(S:Sp):cH:=[S.tp.n,m.tO,m.tL,S.nd,S.bo,S.h1,S.h2,S.h3,S.tm,.slice m.P S.ps.length m.cp]
def QP(m:Rm):cH:=[m.o.node,m.o.floor,m.o.is,m.o.now.o,m.o.now.s,m.o.now.a,m.o.now.ov,.slice m.oA m.o.now.adj.length m.oc,.slice m.oB m.o.now.pre.length m.od,m.o.since]
def NU(m:Rm)(S:Sp):cH:=[S.ov,.slice m.Q S.pre.length m.cq]
structure yb (w:World) (g:Nat) (m:Rm) (S:Sp):Prop where
 p0:Bx w g 0 (qB m S)
 pd:Bx w g 10 (fP m.R)
 pf:Bx w g 522 (Fd.KU m.f m.A m.c m.B m.d)
 po:Bx w g 526 (QP m)
 pq:Bx w g 536 (NU m S)
 ty:Ty w g 65
 lo:lF≤gL∧gL≤g
structure Yp (w:World) (m:Rm) (S:Sp):Prop where
 rd:∀i,i<64→l7 w (m.R i).x.y (m.R i).x.A (m.R i).x.c (m.R i).x.B (m.R i).x.d
 ls:Fd.By w gL none 0 [] m.A m.c m.f.ls
 is:Fd.Eu w gL none 0 [] m.B m.d m.f.dP
 it:∀s∈m.f.dP,l7 w s.x.y s.x.A s.x.c s.x.B s.x.d
 og:l7 w m.o.now m.oA m.oc m.oB m.od
 rq:Rd w m.Q (jU S.pre)∧Row w m.Q S.pre.length 181
 lq:S.pre.length≤m.cq∧m.cq≤maxLen∧ ∀p∈S.pre,p.1<4294967296
structure RsP (m:Rm) (S:Sp):Prop where
 db:fx m.R=S.db
 fl:Fd.Rel S.fl m.f
 iv:m.f.iv=S.h3
 nw:0≤m.f.now∧m.f.now≤S.tm
 ro:Ro.Rel S.x S.md m.o
 ri:Ro.Inv S.x S.md
 rl:Ro.Ba S.x
 pl:S.ps.length≤24
structure gJ (w:World) (g:Nat) (m:Rm) (S:Sp):Prop where
 c:yb w g m S
 v:Yp w m S
 p:RsP m S
 ow:w.ownsRow gL 74 6 (.slice m.P S.ps.length m.cp) S.ps.length (BK S.ps)
variable {g:Nat} {m:Rm} {S:Sp}
def Yp.kp(h:Yp w m S)(K:Bg w w'):Yp w' m S :=
 ⟨fun i hi=>(h.rd i hi).kp K,h.ls.imp id (fun h=>zM h Ac K),h.is.imp id (fun h=>zM h JL K),fun s hs=>(h.it s hs).kp K,h.og.kp K,h.rq.1.kp h.rq.2 sU (by rw[gn];omega) K,h.lq⟩
def yb.Ef(h:yb w g m S)(e:w'.heap[g]?=w.heap[g]?):yb w' g m S :=
 ⟨h.p0.Ef e,h.pd.Ef e,h.pf.Ef e,h.po.Ef e,h.pq.Ef e,by obtain⟨cur,fr,e2⟩:=h.ty;exact⟨cur,fr,e.trans e2⟩,h.lo⟩
def gJ.below(h:gJ w g m S)(hb:cI w w'):gJ w' g m S:=⟨h.c.Ef (hb.block _ (jo h.c.ty)),h.v.kp (.below hb),h.p,dg h.ow hb⟩
def NR:¬iU 65:=by unfold iU;decide
def NY:¬iU 74:=by unfold iU;decide
def gJ.Ww{E:Nat→Prop}(h:gJ w g m S)(he:gA E w w')(hb:Below lF w w'):gJ w' g m S:=⟨h.c.Ef (he.typed h.c.ty NR),h.v.kp (.Ww he hb),h.p,he.own h.ow NY⟩
def gJ.grow{k:Nat}{T:TypeId}(h:gJ w g m S)(hg:w.grownBy w' (some k))(ht:Ty w k T)(hT:¬rX T)(hB:lF≤k)(h1:T≠65)(h2:T≠74):gJ w' g m S :=
 ⟨h.c.Ef (hg.block _ (jo h.c.ty) (fun e=>h1 (by injection e with e;rw[←e]at ht;exact kg ht h.c.ty))),h.v.kp (.grow hg ht hT hB),h.p,ou h.ow fun j hj=>hg.block _ (h.ow.lt j hj).2 (fun e=>h2 (by injection e with e;rw[←e]at ht;exact kg ht (fY h.ow hj)))⟩
def gJ.uy(h:gJ w g m S)(hg:w.grownBy w' (some g))(hc:yb w' g m S→True):Yp w' m S∧w'.ownsRow gL 74 6 (.slice m.P S.ps.length m.cp) S.ps.length (BK S.ps) :=
 ⟨h.v.kp (.grow hg h.c.ty nE (cZ h.c.lo.1 h.c.lo.2)),ou h.ow fun j hj=>hg.block _ (h.ow.lt j hj).2 (fun e=>by
  injection e with e
  have:=kg (fY h.ow hj) (by rw[e];exact h.c.ty);exact absurd this (by decide))⟩
def jt(w:World)(g:Nat)(m:Rm)(S':Sp)(w':World):Prop:=∃m',gJ w' g m' S'∧Er gL w w'∧m'.f.now=m.f.now
def gJ.er(h:gJ w g m S)(hg:w.grownBy w' (some g))(ht:Ty w' g 65):Er gL w w':=Er.cells hg h.c.ty ht (.inl rfl) h.c.lo.2
end
def vU(g:Nat):∀(vs:cH) (o:Nat) (w:World),ee w (w.setCells g o vs)
 | [],_,w=>.refl w
 |v :: r,o,w=>by
   rw[World.setCells];exact ee.trans (.set w ⟨g,o,none⟩ v) (vU g r (o+1) _)
section
variable [Inhabited BY] {w w':World} {g:Nat} {m:Rm} {S:Sp}
def yb.other(h:yb w g m S){j:Nat}(u:Value):Ty (w.setCell ⟨g,j,none⟩ u) g 65:=ee.set w ⟨g,j,none⟩ u _ _ h.ty
def nm(m:Rm)(S:Sp):(qB m S).length=10:=rfl
def wj(m:Rm):(QP m).length=10:=rfl
def DB(m:Rm)(S:Sp):(NU m S).length=2:=rfl
def rz(f:Fd.RF)(A:cG)(c:Nat)(B:cG)(d:Nat):(Fd.KU f A c B d).length=4:=rfl
def yb.Xx(h:yb w g m S)(j:Nat)(hj:j<10)(u:Value){m':Rm}{S':Sp}(e0:(qB m S).set j u=qB m' S')(e1:m'.R=m.R)(e2:Fd.KU m'.f m'.A m'.c m'.B m'.d=Fd.KU m.f m.A m.c m.B m.d)(e3:QP m'=QP m)(e4:NU m' S'=NU m S):yb (w.setCell ⟨g,j,none⟩ u) g m' S' :=
 ⟨h.p0.set j u (by rw[nm];exact hj) e0 j (by omega),by rw[e1];exact h.pd.iX u (by omega),by rw[e2];exact h.pf.iX u (by omega),by rw[e3];exact h.po.iX u (by omega),by rw[e4];exact h.pq.iX u (by omega),h.other u,h.lo⟩
def yb.Ur(h:yb w g m S)(j:Nat)(hj:j<4)(u:Value){m':Rm}(e0:qB m' S=qB m S)(e1:m'.R=m.R)(e2:(Fd.KU m.f m.A m.c m.B m.d).set j u=Fd.KU m'.f m'.A m'.c m'.B m'.d)(e3:QP m'=QP m)(e4:NU m' S=NU m S)(k:Nat)(hk:522+j=k):yb (w.setCell ⟨g,k,none⟩ u) g m' S :=
 ⟨by rw[e0];exact h.p0.iX u (by rw[nm];omega),by rw[e1];exact h.pd.iX u (by rw[fm];omega),h.pf.set j u (by rw[rz];exact hj) e2 k hk,by rw[e3];exact h.po.iX u (by omega),by rw[e4];exact h.pq.iX u (by omega),h.other u,h.lo⟩
def yb.Xv(h:yb w g m S)(j:Nat)(hj:j<10)(u:Value){m':Rm}(e0:qB m' S=qB m S)(e1:m'.R=m.R)(e2:Fd.KU m'.f m'.A m'.c m'.B m'.d=Fd.KU m.f m.A m.c m.B m.d)(e3:(QP m).set j u=QP m')(e4:NU m' S=NU m S)(k:Nat)(hk:526+j=k):yb (w.setCell ⟨g,k,none⟩ u) g m' S :=
 ⟨by rw[e0];exact h.p0.iX u (by rw[nm];omega),by rw[e1];exact h.pd.iX u (by rw[fm];omega),by rw[e2];exact h.pf.iX u (by rw[rz];omega),h.po.set j u (by rw[wj];exact hj) e3 k hk,by rw[e4];exact h.pq.iX u (by omega),h.other u,h.lo⟩
def yb.Xu(h:yb w g m S)(j:Nat)(hj:j<2)(u:Value){m':Rm}{S':Sp}(e0:qB m' S'=qB m S)(e1:m'.R=m.R)(e2:Fd.KU m'.f m'.A m'.c m'.B m'.d=Fd.KU m.f m.A m.c m.B m.d)(e3:QP m'=QP m)(e4:(NU m S).set j u=NU m' S')(k:Nat)(hk:536+j=k):yb (w.setCell ⟨g,k,none⟩ u) g m' S' :=
 ⟨by rw[e0];exact h.p0.iX u (by rw[nm];omega),by rw[e1];exact h.pd.iX u (by rw[fm];omega),by rw[e2];exact h.pf.iX u (by rw[rz];omega),by rw[e3];exact h.po.iX u (by rw[wj];omega),h.pq.set j u (by rw[DB];exact hj) e4 k hk,h.other u,h.lo⟩
def Rm.vj(m:Rm)(f:Fd.RF)(A:cG)(c:Nat)(B:cG)(d:Nat):Rm:={ m with f:=f,A:=A,c:=c,B:=B,d:=d }
def Rm.Dx(m:Rm)(o:Ro.RO)(A:cG)(c:Nat)(B:cG)(d:Nat):Rm:={ m with o:=o,oA:=A,oc:=c,oB:=B,od:=d }
abbrev im(w:World)(g:Nat)(f:Fd.RF)(A:cG)(c:Nat)(B:cG)(d:Nat):World :=
 (((w.setCell ⟨g,522,none⟩ (.int .i64 f.iv)).setCell ⟨g,523,none⟩ (.int .i64 f.now)).setCell ⟨g,524,none⟩ (.slice A f.ls.length c)).setCell ⟨g,525,none⟩ (.slice B f.dP.length d)
abbrev iD(w:World)(g:Nat)(o:Ro.RO)(A:cG)(c:Nat)(B:cG)(d:Nat):World :=
 (((((((((w.setCell ⟨g,526,none⟩ (.int .i64 o.node)).setCell ⟨g,527,none⟩ (.int .i64 o.floor)).setCell ⟨g,528,none⟩ (.bool o.is)).setCell ⟨g,529,none⟩ (.int .i64 o.now.o)).setCell ⟨g,530,none⟩ (.int .i64 o.now.s)).setCell ⟨g,531,none⟩ (.int .i64 o.now.a)).setCell ⟨g,532,none⟩ (.bool o.now.ov)).setCell ⟨g,533,none⟩ (.slice A o.now.adj.length c)).setCell ⟨g,534,none⟩ (.slice B o.now.pre.length d)).setCell ⟨g,535,none⟩ (.int .i64 o.since)
def TY{g0:Nat}{a0 a1 a2 a3:Value}(h:Bx w g g0 [a0,a1,a2,a3])(v0 v1 v2 v3:Value):Bx ((((w.setCell ⟨g,g0,none⟩ v0).setCell ⟨g,g0+1,none⟩ v1).setCell ⟨g,g0+2,none⟩ v2).setCell ⟨g,g0+3,none⟩ v3) g g0 [v0,v1,v2,v3] :=
 (((h.set 0 v0 (by simp) rfl _ rfl).set 1 v1 (by simp) rfl _ rfl).set 2 v2 (by simp) rfl _ rfl).set 3 v3 (by simp) rfl _ rfl
def Qr{g0:Nat}{a0 a1 a2 a3 a4 a5 a6 a7 a8 a9:Value}(h:Bx w g g0 [a0,a1,a2,a3,a4,a5,a6,a7,a8,a9])(v0 v1 v2 v3 v4 v5 v6 v7 v8 v9:Value) :
  Bx ((((((((((w.setCell ⟨g,g0,none⟩ v0).setCell ⟨g,g0+1,none⟩ v1).setCell ⟨g,g0+2,none⟩ v2).setCell ⟨g,g0+3,none⟩ v3).setCell ⟨g,g0+4,none⟩ v4).setCell ⟨g,g0+5,none⟩ v5).setCell ⟨g,g0+6,none⟩ v6).setCell ⟨g,g0+7,none⟩ v7).setCell ⟨g,g0+8,none⟩ v8).setCell ⟨g,g0+9,none⟩ v9) g g0 [v0,v1,v2,v3,v4,v5,v6,v7,v8,v9] :=
 (((((((((h.set 0 v0 (by simp) rfl _ rfl).set 1 v1 (by simp) rfl _ rfl).set 2 v2 (by simp) rfl _ rfl).set 3 v3 (by simp) rfl _ rfl).set 4 v4 (by simp) rfl _ rfl).set 5 v5 (by simp) rfl _ rfl).set 6 v6 (by simp) rfl _ rfl).set 7 v7 (by simp) rfl _ rfl).set 8 v8 (by simp) rfl _ rfl).set 9 v9 (by simp) rfl _ rfl
def y9{g0 off:Nat}{cs:cH}(h:Bx w g off cs)(v0 v1 v2 v3:Value)(hk:g0+4≤off∨off+cs.length≤g0):Bx ((((w.setCell ⟨g,g0,none⟩ v0).setCell ⟨g,g0+1,none⟩ v1).setCell ⟨g,g0+2,none⟩ v2).setCell ⟨g,g0+3,none⟩ v3) g off cs :=
 (((h.iX v0 (by omega)).iX v1 (by omega)).iX v2 (by omega)).iX v3 (by omega)
def wY{g0 off:Nat}{cs:cH}(h:Bx w g off cs)(v0 v1 v2 v3 v4 v5 v6 v7 v8 v9:Value)(hk:g0+10≤off∨off+cs.length≤g0) :
  Bx ((((((((((w.setCell ⟨g,g0,none⟩ v0).setCell ⟨g,g0+1,none⟩ v1).setCell ⟨g,g0+2,none⟩ v2).setCell ⟨g,g0+3,none⟩ v3).setCell ⟨g,g0+4,none⟩ v4).setCell ⟨g,g0+5,none⟩ v5).setCell ⟨g,g0+6,none⟩ v6).setCell ⟨g,g0+7,none⟩ v7).setCell ⟨g,g0+8,none⟩ v8).setCell ⟨g,g0+9,none⟩ v9) g off cs :=
 (((((((((h.iX v0 (by omega)).iX v1 (by omega)).iX v2 (by omega)).iX v3 (by omega)).iX v4 (by omega)).iX v5 (by omega)).iX v6 (by omega)).iX v7 (by omega)).iX v8 (by omega)).iX v9 (by omega)
def gb4(w:World)(g a b c d:Nat)(v0 v1 v2 v3:Value):w.grownBy ((((w.setCell ⟨g,a,none⟩ v0).setCell ⟨g,b,none⟩ v1).setCell ⟨g,c,none⟩ v2).setCell ⟨g,d,none⟩ v3) (some g) :=
 (((dk _ _ _ _).trans (dk _ _ _ _)).trans (dk _ _ _ _)).trans (dk _ _ _ _)
def Zc(w:World)(g a0 a1 a2 a3 a4 a5 a6 a7 a8 a9:Nat)(v0 v1 v2 v3 v4 v5 v6 v7 v8 v9:Value):w.grownBy ((((((((((w.setCell ⟨g,a0,none⟩ v0).setCell ⟨g,a1,none⟩ v1).setCell ⟨g,a2,none⟩ v2).setCell ⟨g,a3,none⟩ v3).setCell ⟨g,a4,none⟩ v4).setCell ⟨g,a5,none⟩ v5).setCell ⟨g,a6,none⟩ v6).setCell ⟨g,a7,none⟩ v7).setCell ⟨g,a8,none⟩ v8).setCell ⟨g,a9,none⟩ v9) (some g) :=
 (((((((((dk _ _ _ _).trans (dk _ _ _ _)).trans (dk _ _ _ _)).trans (dk _ _ _ _)).trans (dk _ _ _ _)).trans (dk _ _ _ _)).trans (dk _ _ _ _)).trans (dk _ _ _ _)).trans (dk _ _ _ _)).trans (dk _ _ _ _)
def ZD(w:World)(g a b c d:Nat)(v0 v1 v2 v3:Value):ee w ((((w.setCell ⟨g,a,none⟩ v0).setCell ⟨g,b,none⟩ v1).setCell ⟨g,c,none⟩ v2).setCell ⟨g,d,none⟩ v3) :=
 ee.trans (ee.trans (ee.trans (.set _ _ _) (.set _ _ _)) (.set _ _ _)) (.set _ _ _)
def YT(w:World)(g a0 a1 a2 a3 a4 a5 a6 a7 a8 a9:Nat)(v0 v1 v2 v3 v4 v5 v6 v7 v8 v9:Value):ee w ((((((((((w.setCell ⟨g,a0,none⟩ v0).setCell ⟨g,a1,none⟩ v1).setCell ⟨g,a2,none⟩ v2).setCell ⟨g,a3,none⟩ v3).setCell ⟨g,a4,none⟩ v4).setCell ⟨g,a5,none⟩ v5).setCell ⟨g,a6,none⟩ v6).setCell ⟨g,a7,none⟩ v7).setCell ⟨g,a8,none⟩ v8).setCell ⟨g,a9,none⟩ v9) :=
 ee.trans (ee.trans (ee.trans (ee.trans (ee.trans (ee.trans (ee.trans (ee.trans (ee.trans (.set _ _ _) (.set _ _ _)) (.set _ _ _)) (.set _ _ _)) (.set _ _ _)) (.set _ _ _)) (.set _ _ _)) (.set _ _ _)) (.set _ _ _)) (.set _ _ _)
def gJ.vj(h:gJ w g m S)(F:Fd.Fn)(f:Fd.RF)(A:cG)(c:Nat)(B:cG)(d:Nat)(hl:Fd.By w gL none 0 [] A c f.ls)(hi:Fd.Eu w gL none 0 [] B d f.dP)(hx:∀s∈f.dP,l7 w s.x.y s.x.A s.x.c s.x.B s.x.d)
  (hr:Fd.Rel F f) (hv:f.iv=m.f.iv) (hn:f.now=m.f.now):gJ (im w g f A c B d) g (m.vj f A c B d) { S with fl:=F }∧Er gL w (im w g f A c B d):=by
 have hg:w.grownBy (im w g f A c B d) (some g):=gb4 ..;obtain⟨hV,hO⟩:=h.uy hg (fun _=>trivial);have ht:Ty (im w g f A c B d) g 65:=ZD _ _ _ _ _ _ _ _ _ _ _ _ h.c.ty;have K:Bg w (im w g f A c B d):=.grow hg h.c.ty nE (Nat.le_trans h.c.lo.1 h.c.lo.2);refine ⟨⟨⟨y9 h.c.p0 _ _ _ _ (by rw [nm]; omega),y9 h.c.pd _ _ _ _ (by rw [fm]; omega),TY h.c.pf _ _ _ _,y9 h.c.po _ _ _ _ (by omega),y9 h.c.pq _ _ _ _ (by omega),ht,h.c.lo⟩,
  ⟨hV.rd,hl.imp id (fun h=>zM h Ac K),hi.imp id (fun h=>zM h JL K),fun s hs=>(hx s hs).kp K,hV.og,hV.rq,hV.lq⟩,⟨h.p.db,hr,hv.trans h.p.iv,by show 0 ≤ f.now ∧ f.now ≤ S.tm; rw [hn]; exact h.p.nw,h.p.ro,h.p.ri,h.p.rl,h.p.pl⟩,hO⟩,h.er hg ht⟩
def gJ.Dx(h:gJ w g m S)(x:La)(md:Bool)(o:Ro.RO)(A:cG)(c:Nat)(B:cG)(d:Nat)(hl:l7 w o.now A c B d)(hr:Ro.Rel x md o)(hi:Ro.Inv x md)(hn:Ro.Ba x) :
  gJ (iD w g o A c B d) g (m.Dx o A c B d) { S with x:=x,md:=md }∧Er gL w (iD w g o A c B d):=by
 have hg:w.grownBy (iD w g o A c B d) (some g):=Zc ..;obtain⟨hV,hO⟩:=h.uy hg (fun _=>trivial);have ht:Ty (iD w g o A c B d) g 65:=YT _ _ _ _ _ _ _ _ _ _ _ _ _ _ _ _ _ _ _ _ _ _ _ _ h.c.ty;have K:Bg w (iD w g o A c B d):=.grow hg h.c.ty nE (Nat.le_trans h.c.lo.1 h.c.lo.2);exact ⟨⟨⟨wY h.c.p0 _ _ _ _ _ _ _ _ _ _ (by rw [nm]; omega),wY h.c.pd _ _ _ _ _ _ _ _ _ _ (by rw [fm]; omega),wY h.c.pf _ _ _ _ _ _ _ _ _ _ (by rw [rz]; omega),Qr h.c.po _ _ _ _ _ _ _ _ _ _,wY h.c.pq _ _ _ _ _ _ _ _ _ _ (by omega),ht,h.c.lo⟩,
  ⟨hV.rd,hV.ls,hV.is,hV.it,hl.kp K,hV.rq,hV.lq⟩,⟨h.p.db,h.p.fl,h.p.iv,h.p.nw,hr,hi,hn,h.p.pl⟩,hO⟩,h.er hg ht⟩
def gJ.RL(h:gJ w g m S)(R:Nat→Rs)(N:Db)(hd:fx R=N)(hx:∀i,i<64→l7 w (R i).x.y (R i).x.A (R i).x.c (R i).x.B (R i).x.d):gJ (w.setCells g 10 (fP R)) g { m with R:=R } { S with db:=N }∧Er gL w (w.setCells g 10 (fP R)):=by
 have hg:w.grownBy (w.setCells g 10 (fP R)) (some g):=oW ..;obtain⟨hV,hO⟩:=h.uy hg (fun _=>trivial);have ht:Ty (w.setCells g 10 (fP R)) g 65:=vU _ _ _ _ _ _ h.c.ty;have K:Bg w (w.setCells g 10 (fP R)):=.grow hg h.c.ty nE (Nat.le_trans h.c.lo.1 h.c.lo.2);exact ⟨⟨⟨h.c.p0.vy _ (by rw [nm]; omega),h.c.pd.zz _ (by rw [fm,fm]),h.c.pf.vy _ (by rw [fm]; omega),h.c.po.vy _ (by rw [fm]; omega),h.c.pq.vy _ (by rw [fm]; omega),ht,h.c.lo⟩,
  ⟨fun i hi=>(hx i hi).kp K,hV.ls,hV.is,hV.it,hV.og,hV.rq,hV.lq⟩,⟨hd,h.p.fl,h.p.iv,h.p.nw,h.p.ro,h.p.ri,h.p.rl,h.p.pl⟩,hO⟩,h.er hg ht⟩
def gJ.YW(h:gJ w g m S)(ov:Bool)(pre:List Pf)(Q:cG)(cq:Nat)(hq:Rd w Q (jU pre)∧Row w Q pre.length 181)(hl:pre.length≤cq∧cq≤maxLen∧ ∀p∈pre,p.1<4294967296) :
  gJ ((w.setCell ⟨g,536,none⟩ (.bool ov)).setCell ⟨g,537,none⟩ (.slice Q pre.length cq)) g { m with Q:=Q,cq:=cq } { S with ov:=ov,pre:=pre }∧Er gL w ((w.setCell ⟨g,536,none⟩ (.bool ov)).setCell ⟨g,537,none⟩ (.slice Q pre.length cq)):=by
 have hg:w.grownBy ((w.setCell ⟨g,536,none⟩ (.bool ov)).setCell ⟨g,537,none⟩ (.slice Q pre.length cq)) (some g):=(dk _ _ _ _).trans (dk _ _ _ _);obtain⟨hV,hO⟩:=h.uy hg (fun _=>trivial);have ht:Ty ((w.setCell ⟨g,536,none⟩ (.bool ov)).setCell ⟨g,537,none⟩ (.slice Q pre.length cq)) g 65:=ee.trans (.set _ _ _) (.set _ _ _) _ _ h.c.ty;have K:Bg w ((w.setCell ⟨g,536,none⟩ (.bool ov)).setCell ⟨g,537,none⟩ (.slice Q pre.length cq)):=.grow hg h.c.ty nE (Nat.le_trans h.c.lo.1 h.c.lo.2);exact ⟨⟨⟨(h.c.p0.iX _ (by rw [nm]; omega)).iX _ (by rw [nm]; omega),(h.c.pd.iX _ (by rw [fm]; omega)).iX _ (by rw [fm]; omega),(h.c.pf.iX _ (by rw [rz]; omega)).iX _ (by rw [rz]; omega),(h.c.po.iX _ (by rw [wj]; omega)).iX _ (by rw [wj]; omega),(h.c.pq.set 0 _ (by rw [DB]; omega) rfl _ rfl).set 1 _ (by simp [NU]) rfl _ rfl,ht,h.c.lo⟩,
  ⟨hV.rd,hV.ls,hV.is,hV.it,hV.og,hq.1.kp hq.2 sU (by show 0 < pre.length ↔ _; rw [gn]; omega) K,hl⟩,⟨h.p.db,h.p.fl,h.p.iv,h.p.nw,h.p.ro,h.p.ri,h.p.rl,h.p.pl⟩,hO⟩,h.er hg ht⟩
def gJ.YV(h:gJ w g m S)(t:Int)(a:S.tm≤t):gJ (w.setCell ⟨g,8,none⟩ (.int .i64 t)) g m { S with tm:=t }∧Er gL w (w.setCell ⟨g,8,none⟩ (.int .i64 t)):=by
 have hg:w.grownBy (w.setCell ⟨g,8,none⟩ (.int .i64 t)) (some g):=dk _ _ _ _;obtain⟨hV,hO⟩:=h.uy hg (fun _=>trivial);have hc:yb (w.setCell ⟨g,8,none⟩ (.int .i64 t)) g m { S with tm:=t }:=h.c.Xx 8 (by omega) _ rfl rfl rfl rfl rfl;exact⟨⟨hc,⟨hV.rd,hV.ls,hV.is,hV.it,hV.og,hV.rq,hV.lq⟩,⟨h.p.db,h.p.fl,h.p.iv,⟨h.p.nw.1,Int.le_trans h.p.nw.2 a⟩,h.p.ro,h.p.ri,h.p.rl,h.p.pl⟩,hO⟩,h.er hg hc.ty⟩
def gJ.eY(h:gJ w g m S)(t:Int)(a:0≤t∧t≤S.tm)(F:Fd.Fn)(hr:Fd.Rel F ⟨m.f.iv,t,m.f.ls,m.f.dP⟩) :
  gJ (w.setCell ⟨g,523,none⟩ (.int .i64 t)) g { m with f:=⟨m.f.iv,t,m.f.ls,m.f.dP⟩ } { S with fl:=F }∧Er gL w (w.setCell ⟨g,523,none⟩ (.int .i64 t)):=by
 have hg:w.grownBy (w.setCell ⟨g,523,none⟩ (.int .i64 t)) (some g):=dk _ _ _ _;obtain⟨hV,hO⟩:=h.uy hg (fun _=>trivial);have hc:yb (w.setCell ⟨g,523,none⟩ (.int .i64 t)) g { m with f:=⟨m.f.iv,t,m.f.ls,m.f.dP⟩ } S:=h.c.Ur (m':={ m with f:=⟨m.f.iv,t,m.f.ls,m.f.dP⟩ }) 1 (by omega) (.int .i64 t) rfl rfl rfl rfl rfl 523 rfl;exact⟨⟨⟨hc.p0,hc.pd,hc.pf,hc.po,hc.pq,hc.ty,hc.lo⟩,⟨hV.rd,hV.ls,hV.is,hV.it,hV.og,hV.rq,hV.lq⟩,⟨h.p.db,hr,h.p.iv,a,h.p.ro,h.p.ri,h.p.rl,h.p.pl⟩,hO⟩,h.er hg hc.ty⟩
def gJ.ke(h:gJ w g m S){gp:Nat}(hP:m.P=some ⟨gp,0,none⟩){i:Nat}(hi:i<S.ps.length)(j:Nat)(hj:j<6)(u:Value)(p:Po)(hp:(HY S.ps[i]).set j u=HY p) :
  gJ (w.setCell ⟨gp,i*6+j,none⟩ u) g m { S with ps:=S.ps.set i p }∧Er gL w (w.setCell ⟨gp,i*6+j,none⟩ u):=by
 have hg:w.grownBy (w.setCell ⟨gp,i*6+j,none⟩ u) (some gp):=dk _ _ _ _;have ho:=h.ow;rw[hP]at ho;have a:Ty w gp 74:=fY ho rfl;have b:gL≤gp:=(ho.lt gp rfl).1;have ht:Ty (w.setCell ⟨gp,i*6+j,none⟩ u) gp 74:=ee.set _ _ _ _ _ a;have e:(w.setCell ⟨gp,i * 6 + j,none⟩ u).heap[g]? = w.heap[g]?:=hg.block _ (jo h.c.ty) (fun e=>by
  injection e with e
  exact absurd (kg a (by rw [← e]; exact h.c.ty)) (by decide))
 have hc:=h.c.Ef e;refine⟨⟨⟨by have:=hc.p0;unfold qB at this ⊢;rw[List.length_set];exact this,hc.pd,hc.pf,hc.po,hc.pq,hc.ty,hc.lo⟩,?_,⟨h.p.db,h.p.fl,h.p.iv,h.p.nw,h.p.ro,h.p.ri,h.p.rl,by simp only[List.length_set];exact h.p.pl⟩,?_⟩,Er.cells hg a ht (.inr rfl) b⟩
 ·have hV:=h.v.kp (.grow hg a Fj (Nat.le_trans h.c.lo.1 b));exact⟨hV.rd,hV.ls,hV.is,hV.it,hV.og,hV.rq,hV.lq⟩
 ·have:=Cw ho (j:=i*6+j) (by rw[SK];omega) u;rw[SJ S.ps i hi j hj u p hp]at this;rw[hP];simp only[List.length_set];exact this
end
def Dk{w:World}{g off:Nat}{R:Nat→Rs}{ops:Array Oper}{rest:List Oper}{op:Oper}{a:Act}{Q:Exit→Act→World→Prop}(b:op.guard=none)(x:Operand)(ho:op.op= .load 57 x)(hx:a.eval x= .pointer (some ⟨g,off,none⟩))(h:Bx w g off (fP R))
  (hk:wpList prog ops Q rest (a.put op.dst (.agg (fP R).toArray)) w):wpList prog ops Q (op :: rest) a w :=
 wpList_load_mid b _ x ho g off hx (fP R) _ h.range underlying57 rfl (s9 R) hk
def BG{w:World}{g off:Nat}{R R':Nat→Rs}{ops:Array Oper}{rest:List Oper}{op:Oper}{a:Act}{Q:Exit→Act→World→Prop}(b:op.guard=none)(x y:Operand)(ho:op.op= .store 57 x y)(hx:a.eval x= .pointer (some ⟨g,off,none⟩))(hy:a.eval y= .agg (fP R').toArray)(h:Bx w g off (fP R))
  (hk:wpList prog ops Q rest (a.put op.dst undef) (w.setCells g off (fP R'))):wpList prog ops Q (op :: rest) a w :=
 wpList_store_mid b _ x y ho g off (fP R').toArray hx hy (by rw[fT,fm];exact h.there (fm R)) (by rw[fT];exact s9 R') (all_oneCell_toArray (DG R')) (by rw[ZO];exact hk)
section
variable {ops:Array Oper} {Q:Exit → Act → World → Prop} {md:Region.Mode} {S:World → Prop} {Z:List Nat} {R R':Nat → Rs}
def pS{i:Nat}{oi:Oper}{k:Nat}{b:Array Bool}{a:Act}{w:World}(d:Option Tmp)(hi:ops[i]?=some oi)(hd:oi.dst=d)(hs:Region.noSelect ops=true)(hf:Region.free md ops b i=true)(hr:(Region.ready md ops b).contains i=true)
  (hZ:(Z.all fun z=>Region.waitsFor md ops z i)=true) (hQ:∀c a w,Q (.panic c) (a.put d (.agg (fP R).toArray)) w→Q (.panic c) a w) (e:oi.guard=none) (x:Operand) (ho:oi.op= .load 57 x) {g off:Nat} (hx:a.eval x= .pointer (some ⟨g,off,none⟩)) (f:∀w,S w→w.rangeAt g off (fP R)) (hS:S w)
  (h:lJ prog md ops Q S Z k (b.setIfInBounds i true) (a.put d (.agg (fP R).toArray)) w):lJ prog md ops Q S Z (k+1) b a w :=
 Uq d hi hd hs hf hr hZ hQ (yieldsIf_load_mid (by simp[Region.wanted,e]) _ x ho g off hx (fP R) _ f underlying57 rfl (s9 R)) hS h
def tv{i:Nat}{oi:Oper}{k:Nat}{b:Array Bool}{a:Act}{w:World}(d:Option Tmp)(hr:Region.ready md ops b= [i])(hi:ops[i]?=some oi)(hd:oi.dst=d)(c:oi.guard=none)(x y:Operand)(ho:oi.op= .store 57 x y){g off:Nat}(hx:a.eval x= .pointer (some ⟨g,off,none⟩))(hy:a.eval y= .agg (fP R').toArray)(hb:Bx w g off (fP R))(hz:i∈Z)
  (h:lJ prog md ops Q S Z k (b.setIfInBounds i true) (a.put d undef) (w.setCells g off (fP R'))):lJ prog md ops Q S Z (k+1) b a w:=by
 subst hd;refine mV hr (by simp) (iK hi (fun K hK=>?_) mQ);rw[cR (by simp[Region.wanted,c])];exact wp_store_mid _ x y ho g off (fP R').toArray hx hy (by rw [fT,fm]; exact hb.there (fm R)) (by rw [fT]; exact s9 R') (all_oneCell_toArray (DG R')) (by
  rw[ZO];exact hK _ _ (fun h=>absurd hz h) (fun _=>h))
end
section
variable [Inhabited BY] {w w':World} {g:Nat} {m:Rm} {S:Sp}
structure OcC (w:World) (g:Nat) (m:Rm):Prop where
 c0:w.cell? ⟨g,526,none⟩=some (.int .i64 m.o.node)
 c1:w.cell? ⟨g,527,none⟩=some (.int .i64 m.o.floor)
 c2:w.cell? ⟨g,528,none⟩=some (.bool m.o.is)
 c3:w.cell? ⟨g,529,none⟩=some (.int .i64 m.o.now.o)
 c4:w.cell? ⟨g,530,none⟩=some (.int .i64 m.o.now.s)
 c5:w.cell? ⟨g,531,none⟩=some (.int .i64 m.o.now.a)
 c6:w.cell? ⟨g,532,none⟩=some (.bool m.o.now.ov)
 c7:w.cell? ⟨g,533,none⟩=some (.slice m.oA m.o.now.adj.length m.oc)
 c8:w.cell? ⟨g,534,none⟩=some (.slice m.oB m.o.now.pre.length m.od)
 c9:w.cell? ⟨g,535,none⟩=some (.int .i64 m.o.since)
def gJ.oc(h:gJ w g m S):OcC w g m:=⟨h.c.po.c 0 rfl _ rfl,h.c.po.c 1 rfl _ rfl,h.c.po.c 2 rfl _ rfl,h.c.po.c 3 rfl _ rfl,h.c.po.c 4 rfl _ rfl,h.c.po.c 5 rfl _ rfl,h.c.po.c 6 rfl _ rfl,h.c.po.c 7 rfl _ rfl,h.c.po.c 8 rfl _ rfl,h.c.po.c 9 rfl _ rfl⟩
def gJ.of(h:gJ w g m S){j k:Nat}(hj:j<10)(hk:526+j=k):w.frozen? ⟨g,k,none⟩=false:=h.c.po.f j (cM (by rw[wj];exact hj)) k hk
structure Zs (w:World) (g:Nat) (m:Rm):Prop where
 c0:w.cell? ⟨g,522,none⟩=some (.int .i64 m.f.iv)
 c1:w.cell? ⟨g,523,none⟩=some (.int .i64 m.f.now)
 c2:w.cell? ⟨g,524,none⟩=some (.slice m.A m.f.ls.length m.c)
 c3:w.cell? ⟨g,525,none⟩=some (.slice m.B m.f.dP.length m.d)
def gJ.fc(h:gJ w g m S):Zs w g m:=⟨h.c.pf.c 0 rfl _ rfl,h.c.pf.c 1 rfl _ rfl,h.c.pf.c 2 rfl _ rfl,h.c.pf.c 3 rfl _ rfl⟩
def gJ.ff(h:gJ w g m S){j k:Nat}(hj:j<4)(hk:522+j=k):w.frozen? ⟨g,k,none⟩=false:=h.c.pf.f j (cM (by rw[rz];exact hj)) k hk
abbrev F4(W:World)(g:Nat)(m:Rm):Prop:=Cv W g 522 m.f.iv∧Cv W g 523 m.f.now∧Cv W g 524 (.slice m.A m.f.ls.length m.c)∧Cv W g 525 (.slice m.B m.f.dP.length m.d)
def Zs.a{w:World}{g:Nat}{m:Rm}(h:Zs w g m):F4 w g m:=⟨h.c0,h.c1,h.c2,h.c3⟩
def gJ.Qa(h:gJ w g m S):w.frozen? ⟨g,522,none⟩=false∧w.frozen? ⟨g,523,none⟩=false∧w.frozen? ⟨g,524,none⟩=false∧w.frozen? ⟨g,525,none⟩=false:=⟨h.ff (j:=0) (by omega) rfl,h.ff (j:=1) (by omega) rfl,h.ff (j:=2) (by omega) rfl,h.ff (j:=3) (by omega) rfl⟩
def gJ.c0(h:gJ w g m S)(j:Nat){u:Value}(hj:(qB m S)[j]?=some u):w.cell? ⟨g,j,none⟩=some u:=h.c.p0.c j hj j (by omega)
def gJ.f0(h:gJ w g m S)(j:Nat)(hj:j<10):w.frozen? ⟨g,j,none⟩=false:=h.c.p0.f j (cM (by rw[nm];exact hj)) j (by omega)
def gJ.q0(h:gJ w g m S):w.cell? ⟨g,536,none⟩=some (.bool S.ov):=h.c.pq.c 0 rfl _ rfl
def gJ.q1(h:gJ w g m S):w.cell? ⟨g,537,none⟩=some (.slice m.Q S.pre.length m.cq):=h.c.pq.c 1 rfl _ rfl
def gJ.qf(h:gJ w g m S){j k:Nat}(hj:j<2)(hk:536+j=k):w.frozen? ⟨g,k,none⟩=false:=h.c.pq.f j (cM (by rw[DB];exact hj)) k hk
structure ZK (w:World) (b o:Nat) (p:Po):Prop where
 c0:w.cell? ⟨b,o,none⟩=some (.int .i64 p.l)
 c1:w.cell? ⟨b,o+1,none⟩=some (.int .i64 p.o)
 c2:w.cell? ⟨b,o+2,none⟩=some (.int .i64 p.c)
 c3:w.cell? ⟨b,o+3,none⟩=some (.int .i64 p.bt)
 c4:w.cell? ⟨b,o+4,none⟩=some (.int .i64 p.ph)
 c5:w.cell? ⟨b,o+5,none⟩=some (.int .i64 p.lf)
def gJ.gp(h:gJ w g m S)(hn:0<S.ps.length):∃gp,m.P=some ⟨gp,0,none⟩:=by
 rcases h.ow.2 with ⟨e,hx⟩|⟨k,cap,cur,e,_⟩
 ·omega
 ·injection e with e _ _;exact⟨k,e⟩
def gJ.VK(h:gJ w g m S){gp:Nat}(hP:m.P=some ⟨gp,0,none⟩){i:Nat}(hi:i<S.ps.length):ZK w gp (i*6) S.ps[i]:=by
 have ho:=h.ow;rw[hP]at ho;have key:∀j (u:Value),j<6→(HY S.ps[i])[j]?=some u→Cv w gp (i*6+j) u:=fun j u hj hu=>by
  have hc:=ho.cells (g:=gp) rfl (i*6+j) u (by rw[SQ S.ps i hi j hj];exact hu);have a:(⟨gp,0,none⟩:Addr).add (i*6+j)=⟨gp,i*6+j,none⟩:=by unfold Addr.add;split<;>simp_all
  rwa[a]at hc
 exact⟨key 0 _ (by omega) rfl,key 1 _ (by omega) rfl,key 2 _ (by omega) rfl,key 3 _ (by omega) rfl,key 4 _ (by omega) rfl,key 5 _ (by omega) rfl⟩
def gJ.Uw(h:gJ w g m S){gp:Nat}(hP:m.P=some ⟨gp,0,none⟩)(j:Nat):w.frozen? ⟨gp,j,none⟩=false:=by
 rcases h.ow.2 with ⟨e,e2⟩|⟨b,cap,cur,e,a,hh,r⟩
 ·rw[hP]at e;cases e
 ·rw[hP]at e;injection e with e _ _
  injection e with e
  injection e with e
  subst e;simp[World.frozen?,hh]
end
section
variable [Inhabited BY]
def DF{w:World}{R R':Nat→Rs}{a:La}{A:cG}{c:Nat}{B:cG}{d:Nat}(h:∀i,i<64→l7 w (R i).x.y (R i).x.A (R i).x.c (R i).x.B (R i).x.d)(b:Ui R (yE a A c B d) a R')(L:l7 w a A c B d) :
  ∀i,i<64→l7 w (R' i).x.y (R' i).x.A (R' i).x.c (R' i).x.B (R' i).x.d:=fun i hi=>by
 rcases b i hi with e|⟨A',c',B',d',e1,e2⟩
 ·rw[e];exact h i hi
 ·simp only[yE,ig,eE,eS,dJ,dp,fE,fv]at e1;obtain⟨⟨rfl,rfl⟩,rfl,rfl⟩:=e1;rw[e2];exact L
section
variable {w w':World} {g:Nat} {m:Rm} {S:Sp}
def gJ.KW(h:gJ w g m S):BV w m.R:=fun i hi=>(h.v.rd i hi).la
def gJ.base(h:gJ w g m S):gL≤w:=by have:=jo h.c.ty;have:=h.c.lo.2;omega
def gJ.ME(h:gJ w g m S):Rd w m.A (m.f.ls.map encZ):=Fd.By.rd h.v.ls (fun hx=>by simp at hx)
def gJ.KP(h:gJ w g m S):Rd w m.B (Fd.lG m.f.dP):=Fd.Eu.rd h.v.is (fun hx=>by simp[Fd.lG]at hx)
def gJ.dP(h:gJ w g m S):Fd.nP w m.f.dP:=fun s hs=>(h.v.it s hs).la
def gJ.sz(h:gJ w g m S):m.f.dP.length≤16384∧m.f.ls.length≤256:=⟨h.p.fl.len,h.p.fl.lsl⟩
def gJ.MH(h:gJ w g m S){f:Fd.RF}{A:cG}{c:Nat}{B:cG}{d:Nat}(hl:Fd.GR w w' m.A m.c m.f.ls A c f.ls)(hi:Fd.GS w w' m.B m.d m.f.dP B d f.dP)(hb:Below w.heap.size w w')(F:Fd.Fn)(hr:Fd.Rel F f)(hv:f.iv=m.f.iv∧f.now=m.f.now)
  (hx:∀s∈f.dP,l7 w s.x.y s.x.A s.x.c s.x.B s.x.d):gJ (im w' g f A c B d) g (m.vj f A c B d) { S with fl:=F }∧Er gL w (im w' g f A c B d):=by
 have h1:=h.below hb;obtain⟨k1,k2⟩:=h1.vj F f A c B d (Fd.By.to h.v.ls hb h.base hl) (Fd.Eu.to h.v.is hb h.base hi) (fun s hs=>(hx s hs).below hb) hr hv.1 hv.2;exact⟨k1,(Er.below hb).trans k2⟩
def jt.of{m':Rm}{S':Sp}(h:gJ w' g m' S')(e:Er gL w w')(hn:m'.f.now=m.f.now):jt w g m S' w':=⟨m',h,e,hn⟩
def jt.from{w1:World}{m':Rm}{S':Sp}(e:Er gL w w1)(hn:m'.f.now=m.f.now)(h:jt w1 g m' S' w'):jt w g m S' w':=by
 obtain⟨m2,h1,h2,h3⟩:=h;exact⟨m2,h1,e.trans h2,h3.trans hn⟩
end
def jT(w:World)(g:Nat)(m:Rm)(S':Sp)(e:Ending)(w':World):Prop:=e= .returned (.tuple #[])∧jt w g m S' w'
def Ei(w:World)(g:Nat)(m:Rm)(S:Sp)(M:gJ w g m S)(ok:eO S) :
  Calls prog 80 #[.pointer (some ⟨g,0,none⟩)] w (jT w g m (nF S)):=by
 have t:xW S.x S.md=S.x:=by unfold xW;rw[ok.xm];rfl
 have CU:=Ro.DI w (Ro.sk m.o m.oA m.oc m.oB m.od) m.o ⟨_,_,_,_,rfl,M.v.og.ro⟩;rw[←Ro.Ml M.p.ro,t]at CU;have z:=ok.xv;obtain⟨x,hx⟩:=ex S.x
 rw[hx]at CU z;replace t:=t.trans hx;have F:Hid (∀w',jt w g m { S with db:=instN S.db x,fl:=Fd.zv S.fl x (-1) } w'→jT w g m (nF S) (.returned (.tuple #[])) w'):=fun w' h=>by
  refine⟨rfl,?_⟩
  unfold nF lX;rw[t,cR (nA z)];exact h
 obtain⟨o0,o1,o2,o3,o4,o5,o6,o7,o8,o9⟩:=M.oc;clear hx;replace CU:=φ CU;replace M:=φ M;clear t ok;go_in;go_wp2_with fail;refine CU.out.mono ?_;rintro e w1 ⟨v,rfl,I,hb⟩;clear o0 o1 o2 o3 o4 o5 o6 o7 o8 o9;obtain⟨A,c,B,d,rfl,L⟩:=Vt I;have E:=cQ w1 (.cells #[x.o,x.s,x.a,x.ov,.slice A x.adj.length c,.slice B x.pre.length d] 41);have bx:=fq.iE w1 #[x.o,x.s,x.a,x.ov,.slice A x.adj.length c,.slice B x.pre.length d] 41 w1 _ rfl rfl;have M2:=(M.out.below hb).below E;have L2:=L.below E;have E2:=(Er.below (B:=gL) hb).trans (Er.below E);have hk:g<w1:=jo (M.out.below hb).c.ty;clear M CU I L hb E;go_upto_region 1 with fail;generalize World.alloc w1 _=w2 at *;generalize w1.heap.size=k at *;have IN:=φ (qc w2.drew m.R _ x (M2.below bd).KW (L2.below bd).la z);have M3:gJ w2.drew g m S:=M2.below bd;have L3:=L2.below bd;have E3:Er gL w w2.drew:=E2.trans (Er.below bd);have q:fq w2.drew k _:=bx;clear M2 L2 E2 bx;change Hid _ at M3 E3;refine gZ (S:=fun W=>W.rangeAt g 10 (fP m.R)∧Cv W k 0 x.o∧Cv W k 1 x.s∧Cv W k 2 x.a∧Cv W k 3 x.ov∧Cv W k 4 (.slice A x.adj.length c)∧Cv W k 5 (.slice B x.pre.length d)) [12]
  ⟨M3.out.c.pd.range,q.c 0 rfl,q.c 1 rfl,q.c 2 rfl,q.c 3 rfl,q.c 4 rfl,q.c 5 rfl⟩ (fun b=>?_)
 (iterate 4 refine uA ?_);refine pS (i:=4) (R:=m.R) (some 13) rfl rfl (by kernel_rfl) (by kernel_rfl) (by kernel_rfl) (by kernel_rfl) (fun _ _ _ h=>h) rfl (.tmp 12) rfl (g:=g) (off:=10) rfl (fun w hw=>hw.1) b ?_
 try simp only[Act.put,eH,List.set_cons_succ,List.set_cons_zero]
 refine zA ?_;refine rZ 6 (fun K hK=>?_);go_simp;refine IN.out.mono ?_;rintro e w3 ⟨R',rfl,J,G,u⟩;dsimp only;have M4:=M3.out.below u;have L4:=L3.below u;have n:=q.later u;have E4:=E3.out.trans (Er.below u);refine hK _ _ (fun _=>⟨M4.c.pd.range,n.c 0 rfl,n.c 1 rfl,n.c 2 rfl,n.c 3 rfl,n.c 4 rfl,n.c 5 rfl⟩) (fun l=>?_);replace b:=l (by decide);clear hK K l M3 L3 q E3 IN u;rw[M4.p.db]at G;(iterate 5 refine uA ?_);refine tv (i:=12) (R:=m.R) (R':=R') none (by kernel_rfl) rfl rfl rfl (.tmp 19) (.tmp 16) rfl (g:=g) (off:=10) rfl rfl M4.c.pd (by decide) ?_;clear b;refine dZ ?_;obtain⟨M5,E5⟩:=M4.RL R' _ G (DF M4.v.rd J L4);have L5:=L4.kp (Bg.grow (oW w3 g 10 (fP R')) M4.c.ty nE (cZ M4.c.lo.1 M4.c.lo.2));have N:=n.vy g 10 (fP R') (by omega);have E6:=E4.trans E5;clear M4 L4 n E4 E5 J G;generalize w3.setCells g 10 (fP R')=w5 at *;have M6:=M5.below bd;have L6:=L5.below bd;have H:fq w5.drew k _:=N;have E7:=E6.trans (Er.below bd);have C:∀s∈(Fd.EW m.f ⟨x,A,c,B,d⟩ (-1)).dP,l7 w5.drew s.x.y s.x.A s.x.c s.x.B s.x.d:=Fd.yT (P:=fun s=>l7 w5.drew s.y s.A s.c s.B s.d) M6.v.it L6 (-1);have SP:=φ (Fd.pV w5.drew m.A m.c m.B m.d m.f M6.ME M6.KP M6.dP (by have:=M6.sz;simp only at this;omega) ⟨x,A,c,B,d⟩ L6.la (-1));obtain⟨f0,f1,f2,f3⟩:=M6.fc;obtain⟨c0,c1,c2,c3,c4,c5⟩:=H.b6;clear M5 L5 N E6 L6;change Hid _ at M6 E7 C;go_upto_region 2 with fail;refine gZ (S:=fun W=>F4 W g m ∧
  Cv W k 0 x.o ∧ Cv W k 1 x.s ∧ Cv W k 2 x.a ∧ Cv W k 3 x.ov ∧ Cv W k 4 (.slice A x.adj.length c) ∧ Cv W k 5 (.slice B x.pre.length d)) [9]
  ⟨⟨f0,f1,f2,f3⟩,c0,c1,c2,c3,c4,c5⟩ (fun b=>?_)
 clear c0 c1 c2 c3 c4 c5 f0 f1 f2 f3;(iterate 4 refine uA ?_);(iterate 2 refine zA ?_);refine rZ 6 (fun K hK=>?_);go_simp;refine SP.out.mono ?_;rintro e w6 ⟨A',c',B',d',rfl,hl,hi,D⟩;dsimp only;have M8:=M6.out.below D;have r:=H.later D;refine hK _ _ (fun _=>⟨M8.fc.a,r.c 0 rfl,r.c 1 rfl,r.c 2 rfl,r.c 3 rfl,r.c 4 rfl,r.c 5 rfl⟩) (fun l=>?_);clear b;have b:=l (by decide);clear hK K l;(iterate 2 refine uA ?_);have hr:=M6.out.p.fl.spread (a:=⟨x,A,c,B,d⟩) z (-1);obtain⟨M7,E8⟩:=M6.out.MH hl hi D _ hr (Fd.zy _ _ _) C;have hn:(Fd.EW m.f ⟨x,A,c,B,d⟩ (-1)).now=m.f.now:=(Fd.zy _ _ _).2;have hf:=F.out _ ⟨_,M7,E7.out.trans E8,hn⟩;clear hn;have y0:=M8.Qa;have x0:=M8.fc.a;clear SP M6 E7 C M7 E8 hr hl hi D F M8 r H b;refine rZ 9 (fun K hK=>?_);go_simp;refine zZ hK ?_;clear hK K;refine dZ ?_;go_wp2;exact fO (v:=.tuple #[]) (by simp[results,results80,go_sem]) rfl hf
end
section
variable [Inhabited BY]
structure Df (w wr:World) (m:Rm) (S:Sp) (k:Nat) (A:cG) (ca:Nat):Prop where
 b:cI w wr
 bx:fq wr w [.int .i64 0,.int .i64 0,.int .i64 0,S.ov,.slice A (gW (S.ps.take k)).length ca,.slice m.Q S.pre.length m.cq]
 ow:wr.ownsRow (w.heap.size+1) 169 3 (.slice A (gW (S.ps.take k)).length ca) (gW (S.ps.take k)).length (jN (gW (S.ps.take k)))
section
variable {w wr w':World} {g:Nat} {m:Rm} {S:Sp} {k:Nat} {A:cG} {ca:Nat}
def Df.below(h:Df w wr m S k A ca)(hb:cI wr w'):Df w w' m S k A ca:=⟨h.b.trans (hb.mono h.b.size),h.bx.later hb,dg h.ow hb⟩
def Df.hs(h:Df w wr m S k A ca):w.heap.size+1≤wr:=by have:=h.bx.lt (by simp);omega
def Df.skip(h:Df w wr m S k A ca)(hk:k<S.ps.length)(hp:S.ps[k].ph≠2):Df w wr m S (k+1) A ca:=by
 have e:gW (S.ps.take (k+1))=gW (S.ps.take k):=by rw[uk _ _ hk,cN hp]
 exact⟨h.b,by rw[e];exact h.bx,by rw[e];exact h.ow⟩
def Df.uB(h:Df w wr m S k A ca)(hg:wr.grownBy w' (Value.slice A (gW (S.ps.take k)).length ca).ownBlock):fq w' w [.int .i64 0,.int .i64 0,.int .i64 0,S.ov,.slice A (gW (S.ps.take k)).length ca,.slice m.Q S.pre.length m.cq] :=
 h.bx.kept hg (fun e=>by have:=(h.ow.lt _ e.symm).1;omega) (by simp)
def Df.put(h:Df w wr m S k A ca)(hk:k<S.ps.length)(hp:S.ps[k].ph=2)(hg:wr.grownBy w' (Value.slice A (gW (S.ps.take k)).length ca).ownBlock){A':cG}{d:Nat}
  (ho:w'.ownsRow (w.heap.size+1) 169 3 (.slice A' ((gW (S.ps.take k)).length+1) d) ((gW (S.ps.take k)).length+1) (jN (gW (S.ps.take k))++ [.int .i64 S.ps[k].o,.int .i64 S.ps[k].l,.int .i64 S.ps[k].c])) :
  Df w (w'.setCell ⟨w,4,none⟩ (.slice A' ((gW (S.ps.take k)).length+1) d)) m S (k+1) A' d:=by
 have e:gW (S.ps.take (k+1))=gW (S.ps.take k)++ [(S.ps[k].o,S.ps[k].l,S.ps[k].c)]:=by rw[uk _ _ hk,cR hp]
 have el:(gW (S.ps.take (k+1))).length=(gW (S.ps.take k)).length+1:=by rw[e];simp
 have hb:=kP h.b h.ow hg (by omega) h.b.size;refine⟨hb.setCell (p:=⟨w,4,none⟩) cj _,?_,?_⟩
 ·rw[el];exact(h.uB hg).set 4 _ (by simp)
 ·rw[el,e,vC];exact cV (a:=⟨w,4,none⟩) ho (by simp only;omega) _
def Df.la(h:gJ w g m S)(o:Df w wr m S S.ps.length A ca):l7 wr (jS S) A ca m.Q m.cq:=by
 have ho:=o.ow;rw[dE]at ho;obtain⟨r,l1,l2,_⟩:=kG ho;have K:Bg w wr:=.below o.b;have q:=h.v.rq.1.kp h.v.rq.2 sU (by rw[gn];omega) K;exact⟨⟨A,ca,m.Q,m.cq,rfl,r,q.1,l1,l2,h.v.lq.1,h.v.lq.2.1,h.v.lq.2.2⟩,Row.own ho,q.2⟩
end
abbrev roC(o:Ro.RO)(A:cG)(c:Nat)(B:cG)(d:Nat):cH:=[o.node,o.floor,o.is,o.now.o,o.now.s,o.now.a,o.now.ov,.slice A o.now.adj.length c,.slice B o.now.pre.length d,o.since]
def wk{W:World}{v:Value}{r:Ro.RO}(h:Ro.nO W v r):∃A c B d,v=Ro.sk r A c B d∧l7 W r.now A c B d:=by
 obtain⟨A,c,B,d,e,h⟩:=h;exact⟨A,c,B,d,e,.of h⟩
def UT(W:World)(z:Ro.RR)(v5 v6 v7:Value)(wx:World):Prop:=∃kb A c B d,v5= .pointer (some ⟨kb,0,none⟩)∧v6= .bool z.made∧v7= .int .i64 z.err∧cI W wx∧W≤kb∧fq wx kb (roC z.r A c B d)∧l7 wx z.r.now A c B d
def FQ(w:World)(g:Nat)(m:Rm)(S:Sp)(M:gJ w g m S)(ay:S.pre.length≤64)(ar:0≤S.x.s)(E:eO { S with x:=(ke S.x S.md (jS S)).x,md:=(ke S.x S.md (jS S)).now }) :
  Calls prog 42 #[pt g] w (jT w g m (ft S)):=by
 have aD:=qU S.ps;have az:=M.p.pl;have AG:=Ro.KC M.p.ro M.p.ri M.p.rl (y:=jS S) ⟨by simp only[jS];omega,by simp only[jS];omega⟩;have ai:0≤m.o.floor:=by rw[M.p.ro.2.1];exact ar
 have OS:=fun W A ca (o:Df w W m S S.ps.length A ca) W2 (hB:cI W W2)=>Ro.NT W W2 hB (Ro.sk m.o m.oA m.oc m.oB m.od) (ig 0 0 0 S.ov A (gW S.ps).length ca m.Q S.pre.length m.cq) m.o (jS S) ⟨_,_,_,_,rfl,((M.below o.b).v.og).ro⟩ (Df.la M o).ro ai
 obtain⟨r,hr⟩:=ex (ke S.x S.md (jS S))
 obtain⟨z,hz⟩:=ex (Ro.Cm m.o (jS S))
 rw[hr,hz]at AG;rw[hz]at OS;rw[hr]at E;obtain⟨ad,ac,aj,ab,aa⟩:=AG;have B:Hid (r.made=true→ ∀w1 m1 w',Er gL w w1→m1.f.now=m.f.now→jT w1 g m1 (nF { S with x:=r.x,md:=r.now }) (.returned (.tuple #[])) w'→jT w g m (ft S) (.returned (.tuple #[])) w'):=fun e w1 m1 w' h1 h2 h3=>by
  have e2:ft S=nF { S with x:=r.x,md:=r.now }:=by unfold ft;rw[hr,cR e]
  rw[e2];exact⟨rfl,jt.from h1 h2 h3.2⟩
 have I:Hid (r.made=false→ ∀w1 m1,gJ w1 g m1 { S with x:=r.x,md:=r.now }→Er gL w w1→m1.f.now=m.f.now→jT w g m (ft S) (.returned (.tuple #[])) w1):=fun e w1 m1 h0 h1 h2=>by
  have e2:ft S= { S with x:=r.x,md:=r.now }:=by unfold ft;rw[hr,cN (by rw[e];simp)]
  rw[e2];exact⟨rfl,jt.of h0 h1 h2⟩
 clear hr hz ai;have U:=fun(hn:0<S.ps.length)=>M.gp hn
 have i9:=M.c0 9 rfl;have k9:=i9;have ag:=M.q0;have af:=M.q1;have Z:=cQ w (.cells #[i0,i0,i0,false,sn,sn] 41);have ao:=cW Z ag;have am:=cW Z af;change Hid _ at U OS E ad ac aj ab aa;replace M:=φ M;clear Z;go_in;go_upto_region 0 with fail;go_cut [2] (fun v2 wx=>v2= pt w∧wx=(w.alloc (.cells #[i0,i0,i0,S.ov,sn,.slice m.Q S.pre.length m.cq] 41)).drew)
 case first=>
  go_region_law (fail)
  all_goals
   go_wp2;go_meet;exact⟨rfl,rfl⟩
 case rest=>
  obtain⟨rfl,rfl⟩:=hcut;have O:Df w (w.alloc (.cells #[i0,i0,i0,S.ov,sn,.slice m.Q S.pre.length m.cq] 41)).drew m S 0 none 0:=by
   have hb:=cQ w (.cells #[i0,i0,i0,S.ov,sn,.slice m.Q S.pre.length m.cq] 41);exact⟨hb.drew,(fq.iE w _ _ _ _ rfl rfl).drew,cn⟩
  generalize (w.alloc _).drew=w2 at *;clear ao am k9 ag af;replace i9:=cW O.b i9;go_wp2_with fail;clear i9;go_loopw [3] (fun v3 wr=>∃(i:Nat) (A:cG) (ca:Nat),v3= .int .i64 i∧i≤S.ps.length∧Hid (Df w wr m S i A ca)) (fun v3 _=>S.ps.length - (intOf v3).toNat)
  case atStart=>exact⟨0,none,0,rfl,by omega,O⟩
  case round=>
   clear O;obtain⟨i,A,ca,rfl,hi,O⟩:=hrel;have i9:=(M.out.below O.out.b).c0 9 rfl
   by_cases hin:i<S.ps.length
   ·obtain⟨gp,hP⟩:=U.out (by omega);have hp:=(M.out.below O.out.b).VK hP hin;have n:=fun h2=>O.out.skip hin h2
    have C:=fun(h2:S.ps[i].ph=2) W {w':World} {A':cG} {ca':Nat} (o:Df w W m S i A ca) (hg:W.grownBy w' _) ho=>o.put (A':=A') (d:=ca') hin h2 hg ho
    obtain⟨p,V⟩:=ex (S.ps[i])
    rw[V]at hp n;simp only[V]at C;obtain⟨c0,c1,c2,c3,c4,c5⟩:=hp;have aA:(gW (S.ps.take i)).length≤512:=by have:=qU (S.ps.take i);rw[eM]at this;omega
    change Hid _ at n C;clear V;have P:=cQ wr (.cells #[p.l,p.o,p.c,p.bt,p.ph,p.lf] 74);have pb:=fq.iE wr #[p.l,p.o,p.c,p.bt,p.ph,p.lf] 74 wr _ rfl rfl;have O2:=O.out.below P;unfold qB at i9;simp only[hP]at i9;go_upto_region 5 with fail;clear c0 c1 c2 c3 c4 c5 i9;obtain⟨q0,q1,q2,-,q4,-⟩:=pb.b6
    by_cases t:p.ph=2
    ·have e1:(p.ph==2)=true:=by simp[t]
     replace t:=φ t;go_upto_region 6 with fail;generalize ap:World.alloc wr _=w3 at *;clear ap e1;have aE:=O2.bx.c 4 rfl;have av:=cQ w3 (.cells #[p.o,p.l,p.c] 169);have O3:=O2.below av;have ak:=Rd.lit w3 #[p.o,p.l,p.c] 169;have al:=O3.ow;have aq:=O3.hs;have ae:∀u∈ [Value.int .i64 p.o,p.l,p.c],u.oneCell'=true:=by
      intro u hu;simp only[dA,eF,ik]at hu;rcases hu with rfl|rfl|rfl<;>rfl
     have au:Hid (∀w6,(w3.alloc (.cells #[p.o,p.l,p.c] 169)).grownBy w6 (Value.slice A (gW (S.ps.take i)).length ca).ownBlock→Cv w6 w 4 (.slice A (gW (S.ps.take i)).length ca)∧w6.frozen? ⟨w,4,none⟩=false):=fun w6 J=>⟨(O3.uB J).c 4 rfl,(O3.uB J).f 4 rfl⟩
     have aw:=φ O3;clear O O2 O3 P pb;generalize (gW (S.ps.take i)).length=na at *;go_wp2_with (at_builtin;refine dK rfl YJ (.tmp 38) (.tmp 46) rfl (w.heap.size+1) rfl al (m:=1) rfl rfl ak ae (by simp only[maxLen];omega) (by omega) aq (na+1) _ rfl rfl ?_;intro v6 w6 o6 aC J _;obtain⟨q0,q1⟩:=au.out _ J;obtain⟨A6,c6,rfl,-⟩:=dN o6;have O9:=φ (C t _ aw J o6));go_round
     case rel=>exact⟨i+1,A6,c6,by go_num,by omega,O9⟩
     case measure=>simp[intOf];omega
    ·have e1:(p.ph==2)=false:=by simp[t]
     have O4:=φ ((n t).below P);clear t O O2 pb;go_wp2;go_round
     case rel=>exact⟨i+1,A,ca,by go_num,by omega,O4⟩
     case measure=>simp[intOf];omega
   ·obtain rfl:S.ps.length=i:=by omega
    have e1:decide ((S.ps.length:Int)< (S.ps.length:Int))=false:=by simp
    have B2:=O.out.b;have M2:=M.out.below B2;have G:=OS.out wr.drew A ca (O.out.below bd) wr.drew cy;have R:=OS.out wr.drew A ca (O.out.below bd) (wr.alloc (.cells #[i0,i0,false,i0,i0,i0,false,sn,sn,i0] 63)).drew (cQ wr.drew (.cells #[i0,i0,false,i0,i0,i0,false,sn,sn,i0] 63));have bb:=O.out.bx;rw[dE]at bb;have q:fq wr.drew w _:=bb;have M3:=M2.below bd;have E3:Er gL w wr.drew:=Er.below B2.drew;unfold qB at i9;replace G:=φ G;replace R:=φ R;replace M3:=φ M3;replace E3:=φ E3;replace q:=φ q;clear O OS U M2 B2 bb;go_upto_region 7 with fail;clear e1 i9;go_cut [5,6,7] (fun v5 v6 v7 wx=>UT wr.drew z v5 v6 v7 wx)
    case first=>
     obtain⟨o0,o1,o2,o3,o4,o5,o6,o7,o8,o9⟩:=M3.out.oc;obtain⟨b0,b1,b2,b3,b4,b5⟩:=q.out.b6;refine gZ (S:=fun W=>Cv W g 526 m.o.node ∧ Cv W g 527 m.o.floor ∧ Cv W g 528 (.bool m.o.is) ∧ Cv W g 529 m.o.now.o ∧ Cv W g 530 m.o.now.s ∧ Cv W g 531 m.o.now.a ∧ Cv W g 532 (.bool m.o.now.ov) ∧ Cv W g 533 (.slice m.oA m.o.now.adj.length m.oc) ∧ Cv W g 534 (.slice m.oB m.o.now.pre.length m.od) ∧ Cv W g 535 m.o.since ∧
      Cv W w 0 i0 ∧ Cv W w 1 i0 ∧ Cv W w 2 i0 ∧ Cv W w 3 (.bool S.ov) ∧ Cv W w 4 (.slice A (gW S.ps).length ca) ∧ Cv W w 5 (.slice m.Q S.pre.length m.cq)) [11] ⟨o0,o1,o2,o3,o4,o5,o6,o7,o8,o9,b0,b1,b2,b3,b4,b5⟩ (fun h=>?_)
     clear o0 o1 o2 o3 o4 o5 o6 o7 o8 o9 b0 b1 b2 b3 b4 b5;(iterate 3 refine uA ?_);(iterate 2 refine zA ?_);refine mV (rs:=[5,10]) (by kernel_rfl) (by simp) ?_;refine iK rfl (fun K hK=>?_) (iK rfl (fun K hK=>?_) mQ)
     ·go_simp;(with_reducible refine G.out.mono ?_);rintro e wa ⟨v,rfl,H,k⟩;obtain⟨A',c',B',d',rfl,L⟩:=wk H;dsimp only;have N:=M3.out.below k;have b4:=q.out.later k;refine hK _ _ (fun _=>⟨N.oc.c0,N.oc.c1,N.oc.c2,N.oc.c3,N.oc.c4,N.oc.c5,N.oc.c6,N.oc.c7,N.oc.c8,N.oc.c9,b4.c 0 rfl,b4.c 1 rfl,b4.c 2 rfl,b4.c 3 rfl,b4.c 4 rfl,b4.c 5 rfl⟩) (fun d=>?_);replace h:=d (by decide);clear hK K d H;(iterate 4 refine uA ?_);have ax:=k.size;have T:=((St.start wr.drew).call k).nw #[i0,i0,false,i0,i0,i0,false,sn,sn,i0] 63 wa;replace N:=N.below (cQ wa (.cells #[i0,i0,false,i0,i0,i0,false,sn,sn,i0] 63));replace b4:=b4.later (cQ wa (.cells #[i0,i0,false,i0,i0,i0,false,sn,sn,i0] 63));refine rZ 10 (fun K hK=>?_);go_simp;refine hK _ _ (fun _=>⟨N.oc.c0,N.oc.c1,N.oc.c2,N.oc.c3,N.oc.c4,N.oc.c5,N.oc.c6,N.oc.c7,N.oc.c8,N.oc.c9,b4.c 0 rfl,b4.c 1 rfl,b4.c 2 rfl,b4.c 3 rfl,b4.c 4 rfl,b4.c 5 rfl⟩) (fun d=>?_);replace h:=d (by decide);clear hK K d k;generalize wa.alloc _=wb at *;generalize X:wa.heap.size=kb at *;clear X;have S9:=T.iD (.int .i64 z.r.node) (.int .i64 z.r.floor) (.bool z.r.is) (.int .i64 z.r.now.o) (.int .i64 z.r.now.s) (.int .i64 z.r.now.a) (.bool z.r.now.ov) (.slice A' z.r.now.adj.length c') (.slice B' z.r.now.pre.length d') (.int .i64 z.r.since) (by omega) (by simp);have L9:=L.below S9.b;have b9:=S9.b;have x9:=S9.box 0 rfl;obtain⟨f0,f1,f2,f3,f4,f5,f6,f7,f8,f9⟩:=(T.box 0 rfl).f10;obtain⟨q0,q1,q2,q3,q4,q5,q6,q7,q8,q9⟩:=(T.box 0 rfl).iM;clear S9 N b4 M3 q G R;refine rZ 11 (fun K hK=>?_);go_simp;refine zZ hK ?_;clear hK K h f0 q0;(iterate 2 refine uA ?_);refine dZ ?_;go_wp2;go_meet;exact⟨_,A',c',B',d',rfl,rfl,rfl,b9,(by omega),x9,L9⟩
     ·have T:St wr.drew (wr.alloc (.cells #[i0,i0,false,i0,i0,i0,false,sn,sn,i0] 63)).drew [(wr,[i0,i0,false,i0,i0,i0,false,sn,sn,i0])] []:=(St.start wr.drew).nw #[i0,i0,false,i0,i0,i0,false,sn,sn,i0] 63 wr.drew.heap.size;have N:=M3.out.below (w':=(wr.alloc (.cells #[i0,i0,false,i0,i0,i0,false,sn,sn,i0] 63)).drew) (cQ wr.drew (.cells #[i0,i0,false,i0,i0,i0,false,sn,sn,i0] 63));have b4:=q.out.later (w':=(wr.alloc (.cells #[i0,i0,false,i0,i0,i0,false,sn,sn,i0] 63)).drew) (cQ wr.drew (.cells #[i0,i0,false,i0,i0,i0,false,sn,sn,i0] 63));have X:wr.drew.heap.size≤wr.heap.size:=cj;go_simp;refine hK _ _ (fun _=>⟨N.oc.c0,N.oc.c1,N.oc.c2,N.oc.c3,N.oc.c4,N.oc.c5,N.oc.c6,N.oc.c7,N.oc.c8,N.oc.c9,b4.c 0 rfl,b4.c 1 rfl,b4.c 2 rfl,b4.c 3 rfl,b4.c 4 rfl,b4.c 5 rfl⟩) (fun d=>?_);replace h:=d (by decide);clear hK K d;generalize wr.heap.size=kb at *;generalize (wr.alloc _).drew=wb at *;refine rZ 5 (fun K hK=>?_);go_simp;(with_reducible refine R.out.mono ?_);rintro e wa ⟨v,rfl,H,k⟩;obtain⟨A',c',B',d',rfl,L⟩:=wk H;dsimp only;replace N:=N.below k;replace b4:=b4.later k;replace T:=T.call k;refine hK _ _ (fun _=>⟨N.oc.c0,N.oc.c1,N.oc.c2,N.oc.c3,N.oc.c4,N.oc.c5,N.oc.c6,N.oc.c7,N.oc.c8,N.oc.c9,b4.c 0 rfl,b4.c 1 rfl,b4.c 2 rfl,b4.c 3 rfl,b4.c 4 rfl,b4.c 5 rfl⟩) (fun d=>?_);replace h:=d (by decide);clear hK K d H k;(iterate 4 refine uA ?_);have S9:=T.iD (.int .i64 z.r.node) (.int .i64 z.r.floor) (.bool z.r.is) (.int .i64 z.r.now.o) (.int .i64 z.r.now.s) (.int .i64 z.r.now.a) (.bool z.r.now.ov) (.slice A' z.r.now.adj.length c') (.slice B' z.r.now.pre.length d') (.int .i64 z.r.since) (by omega) (by simp);have L9:=L.below S9.b;have b9:=S9.b;have x9:=S9.box 0 rfl;have f0:=(T.box 0 rfl).f10;have q0:=(T.box 0 rfl).iM;clear S9 N b4 M3 q G R;refine rZ 11 (fun K hK=>?_);go_simp;refine zZ hK ?_;clear hK K h f0 q0;(iterate 2 refine uA ?_);refine dZ ?_;go_wp2;go_meet;exact⟨_,A',c',B',d',rfl,rfl,rfl,b9,(by omega),x9,L9⟩
    case rest=>
     obtain⟨kb,A',c',B',d',rfl,rfl,rfl,Y,X,bk,L5⟩:=hcut;have M5:=M3.out.below Y;have E5:=E3.out.trans (Er.below Y);obtain⟨M6,E6⟩:=M5.Dx r.x r.now z.r A' c' B' d' L5 ad ab aa;have E7:=E5.trans E6;obtain⟨w6,F⟩:=ex (iD wc g z.r A' c' B' d')
     rw[F]at M6 E7;unfold iD at F;replace F:=φ F;have x0:=bk.iM;obtain⟨o0,o1,o2,o3,o4,o5,o6,o7,o8,o9⟩:=M5.oc;have z0:=M5.of (j:=0) (by omega) rfl;have z1:=M5.of (j:=1) (by omega) rfl;have z2:=M5.of (j:=2) (by omega) rfl;have z3:=M5.of (j:=3) (by omega) rfl;have z4:=M5.of (j:=4) (by omega) rfl;have z5:=M5.of (j:=5) (by omega) rfl;have z6:=M5.of (j:=6) (by omega) rfl;have z7:=M5.of (j:=7) (by omega) rfl;have z8:=M5.of (j:=8) (by omega) rfl;have z9:=M5.of (j:=9) (by omega) rfl;have aB:g<wc:=jo M5.c.ty;change Hid _ at M6 E7;clear Y bk L5 M5 E5 E6 M3 E3 q G;go_upto_region 9 with fail;clear x0 o0 o1 o2 o3 o4 o5 o6 o7 o8 o9 z0 z1 z2 z3 z4 z5 z6 z7 z8 z9;rw[F.out];clear F;have D:=ac.out;rcases hm:z.made with _|_
     ·have hf:=I.out (D.trans hm) w6 _ M6 E7 rfl;clear B I E M6 E7 D;go_wp2;exact fO (v:=.tuple #[]) (by simp[results,results42,go_sem]) rfl hf
     ·have PB:=Ei w6 g _ _ M6 E;have ah:=φ (fun w'=>B (D.trans hm) w6 (m.Dx z.r A' c' B' d') w' E7 rfl);replace PB:=φ PB;clear B I D E M6 E7;go_wp2_with fail;(with_reducible refine PB.out.mono ?_);rintro e w9 ⟨rfl,P9⟩;have hf:=ah.out w9 ⟨rfl,P9⟩;clear PB ah P9;go_wp2;exact fO (v:=.tuple #[]) (by simp[results,results42,go_sem]) rfl hf
def sW(w:World)(g:Nat)(m:Rm)(S:Sp)(M:gJ w g m S)(ok:eO S) :
  Calls prog 42 #[.pointer (some ⟨g,0,none⟩)] w (jT w g m (ft S)):=by
 have a:=ok.xk.set (jS S);rw[←ok.xm]at a;exact FQ w g m S M ok.pre ok.xs.1 (ok.Hu a.1 (a.2.trans ok.xm))
end
def GF(R:Nat→Rs):pz (nN R)=ku (fx R):=by
 unfold pz nN pE ku eR;rw[jv,zc,jv];have e:(List.range 64).filter ((fun i:Int=>(fx R i.toNat).isSome)∘fun(i:Nat)=>(i:Int))=(List.range 64).filter fun i=>(R i).is:=by
  refine gN fun i hi=>?_
  have h:=ec.1 hi;simp only[Function.comp,Int.toNat_natCast,fx]
  by_cases hr:(R i).is=true<;>simp[h,hr]
 rw[e];refine sH fun i hi=>?_
 obtain⟨h1,h2⟩:=dW.1 hi;have h3:=ec.1 h1;simp only[Function.comp,Int.toNat_natCast,fx];rw[cR ⟨h3,h2⟩];rfl
def Qy{R:Nat→Rs}{s:Lx}(h:s∈nN R):∃i,i<64∧s=(R i).x:=by
 obtain⟨i,hi,rfl⟩:=dL.1 h;exact⟨i,ec.1 (dW.1 hi).1,rfl⟩
def Mt(R:Nat→Rs):(nN R).length≤64:=GG R 64
section
variable [Inhabited BY]
section
variable {w w':World} {g:Nat} {m:Rm} {S:Sp}
def gJ.state(h:gJ w g m S){gp:Nat}(hP:m.P=some ⟨gp,0,none⟩){i:Nat}(hi:i<S.ps.length)(ph lf:Int) :
  gJ ((w.setCell ⟨gp,i*6+4,none⟩ (.int .i64 ph)).setCell ⟨gp,i*6+5,none⟩ (.int .i64 lf)) g m { S with ps:=S.ps.set i ⟨S.ps[i].l,S.ps[i].o,S.ps[i].c,ph,lf,S.ps[i].bt⟩ }∧Er gL w ((w.setCell ⟨gp,i*6+4,none⟩ (.int .i64 ph)).setCell ⟨gp,i*6+5,none⟩ (.int .i64 lf)):=by
 obtain⟨h1,e1⟩:=h.ke hP hi 4 (by omega) (.int .i64 ph) ⟨S.ps[i].l,S.ps[i].o,S.ps[i].c,ph,S.ps[i].lf,S.ps[i].bt⟩ rfl;obtain⟨h2,e2⟩:=h1.ke hP (i:=i) (by simpa using hi) 5 (by omega) (.int .i64 lf) ⟨S.ps[i].l,S.ps[i].o,S.ps[i].c,ph,lf,S.ps[i].bt⟩ (by simp only[List.getElem_set_self];rfl);simp only[List.set_set]at h2;exact⟨h2,e1.trans e2⟩
def gJ.WE(h:gJ w g m S){gp:Nat}(hP:m.P=some ⟨gp,0,none⟩){i:Nat}(hi:i<S.ps.length)(b:Int) :
  gJ (w.setCell ⟨gp,i*6+3,none⟩ (.int .i64 b)) g m { S with ps:=S.ps.set i ⟨S.ps[i].l,S.ps[i].o,S.ps[i].c,S.ps[i].ph,S.ps[i].lf,b⟩ }∧Er gL w (w.setCell ⟨gp,i*6+3,none⟩ (.int .i64 b)):=h.ke hP hi 3 (by omega) (.int .i64 b) ⟨S.ps[i].l,S.ps[i].o,S.ps[i].c,S.ps[i].ph,S.ps[i].lf,b⟩ rfl
def gJ.c9(h:gJ w g m S){gp:Nat}(hP:m.P=some ⟨gp,0,none⟩):w.cell? ⟨g,9,none⟩=some (.slice (some ⟨gp,0,none⟩) S.ps.length m.cp):=by
 have:=h.c0 9 rfl;rw[hP]at this;exact this
def gJ.own(h:gJ w g m S){gp:Nat}(hP:m.P=some ⟨gp,0,none⟩){i:Nat}(hi:i<S.ps.length){p:Po}(hp:S.ps[i]=p):ZK w gp (i*6) p:=by
 have:=h.VK hP hi;rw[hp]at this;exact this
end
def IW(w:World)(g:Nat)(m:Rm)(S1:Sp)(wx:World):Prop:=gJ wx g m S1∧Er gL w wx
def Eg(w:World)(g:Nat)(m:Rm)(S:Sp)(M:gJ w g m S)(ok:eO S)(i:Nat)(hi:i<S.ps.length)(ph lf:Int)(hv:He.vQ ph lf=true) :
  Calls prog 84 #[pt g,i,.agg #[ph,lf]] w (jT w g m (jl S i ph lf)):=by
 obtain⟨gp,hP⟩:=M.gp (by omega);obtain⟨p,hp⟩:=ex (S.ps[i])
 have ap:=ok.ps p (by rw[←hp];exact di hi);have au:=ap.l;obtain⟨q,hq⟩:=de au.1;have ax:q<256:=by omega
 have Y:=ok.UF hi hv;have Z:=uc (ph:=ph) (lf:=lf) hi;rw[hp]at Z;have aq:QV S i=p.ph:=by unfold QV;rw[cM hi,hp]
 have ag:=ok.va;have aa:=M.p.db;obtain⟨ev,aj⟩:=ex (He.oz p.ph ph)
 have EV:=fun W=>He.zI p.ph p.lf ph lf W
 have Q:=CR p.ph ph;rw[aj]at EV Z Q;have J:jl S i ph lf=if ev=0 then jB S i ph lf else ft (jB S i ph lf):=by unfold jl;rw[aq,aj]
 obtain⟨S1,N⟩:∃S1,S1= { S with ps:=S.ps.set i (jq p ph lf) }:=⟨_,rfl⟩
 have I:jB S i ph lf= { S1 with fl:=if ev=1 then Fd.eY S.fl p.l.toNat (Fd.pJ (fun _=>none) (ku S.db))else if ev=2 then Fd.gx S.fl p.l.toNat else S.fl }:=by rw[Z,N]
 have F:i<S1.ps.length:=by rw[N];simpa using hi
 have u:S1.ps[i]'F=jq p ph lf:=by subst N;simp
 have L:S1.fl=S.fl:=by rw[N]
 have al:=cQ w (.cells #[ph,lf] 72);have bx:=fq.iE w #[ph,lf] 72 w _ rfl rfl;have M1:=M.below al;have E1:=Er.below (B:=gL) al;have aA:gp<w:=dm _ _ (M.own hP hi hp).c0;change Hid _ at I J aa hP hp hq N u L Y Q M1 E1;replace EV:=φ EV;replace ag:=φ ag;clear M al ap ok au Z aq aj hv;go_in;go_upto_region 1 with fail;generalize World.alloc w _=w1 at *;generalize ay:w.heap.size=k at *;clear ay;have M2:=M1.out.below bd;have E2:=E1.out.trans (Er.below bd);have ae:fq w1.drew k [ph,lf]:=bx;clear M1 E1 bx;have C:=M2.own hP hi hp;refine gZ (S:=fun W=>Cv W g 9 (.slice (some ⟨gp,0,none⟩) S.ps.length m.cp)∧Cv W gp (i*6+4) p.ph∧Cv W gp (i*6+5) p.lf∧Cv W k 0 ph∧Cv W k 1 lf) [] ⟨M2.c9 hP,C.c4,C.c5,ae.c 0 rfl,ae.c 1 rfl⟩ (fun b=>?_);clear C;change Hid _ at M2 E2;(iterate 3 refine uA ?_);refine zA ?_;(iterate 3 refine uA ?_);(iterate 2 refine zA ?_);refine rZ 9 (fun K hK=>?_);go_simp;refine (EV _).mono ?_;rintro e w2 ⟨rfl,ab⟩;dsimp only;have M3:=M2.out.below ab;have E3:=E2.out.trans (Er.below ab);have ad:=ae.later ab;have C:=M3.own hP hi hp;refine hK _ _ (fun _=>⟨M3.c9 hP,C.c4,C.c5,ad.c 0 rfl,ad.c 1 rfl⟩) (fun a=>?_);replace b:=a (by decide);clear hK K a C M2 E2 ae ab EV;change Hid _ at M3 E3;refine uA ?_;refine dZ ?_;clear b;go_upto_region 2 with fail;have M4:=M3.out.below bd;have E4:=E3.out.trans (Er.below bd);have ac:fq w2.drew k [ph,lf]:=ad;clear M3 E3 ad;refine gZ (S:=fun W=>Cv W g 9 (.slice (some ⟨gp,0,none⟩) S.ps.length m.cp)∧Cv W k 0 ph∧Cv W k 1 lf) [8] ⟨M4.c9 hP,ac.c 0 rfl,ac.c 1 rfl⟩ (fun b=>?_);generalize w2.drew=w3 at *;have z4:=M4.Uw hP (i*6+4);have z5:=M4.Uw hP (i*6+5);have C:=M4.own hP hi hp;have c4:=C.c4;have c5:=C.c5;clear C;change Hid _ at M4 E4;(iterate 3 refine uA ?_);refine zA ?_;refine uA ?_;refine zA ?_;(iterate 2 refine uA ?_);refine rZ 8 (fun K hK=>?_);go_simp;refine zZ hK ?_;clear hK K b z4 z5 c4 c5;refine dZ ?_;have av:gp≠k:=by omega
 obtain⟨M5,E5⟩:=M4.out.state hP hi ph lf;have E6:=E4.out.trans E5;have aw:=(ac.iX (p:=⟨gp,i*6+4,none⟩) ph av).iX (p:=⟨gp,i*6+5,none⟩) lf av;rw[hp.out]at M5;clear M4 E4 E5 ac;generalize (w3.setCell _ _).setCell _ _=w4 at *;have b0:=aw.c 0 rfl;change Hid _ at M5 E6;clear aw;go_upto_region 3 with fail;go_upto_if 27 with fail;go_cut [] (fun wx=>IW w g m S1 wx)
 case first=>
  have az:Hid (∀p':Po,(S.ps.set i ⟨p.l,p.o,p.c,ph,lf,p.bt⟩).set i p'=S.ps.set i p'):=fun p'=>lu ..
  by_cases h0:ph=0
  ·have e1:(ph==0)=true:=by simp[h0]
   obtain⟨M6,E7⟩:=M5.out.WE hP (i:=i) (by simpa using hi) 0;have E8:=E6.out.trans E7;have i9:=M5.out.c9 hP;have C:=M5.out.VK hP (i:=i) (by simpa using hi);have c3:=C.c3;have z3:=M5.out.Uw hP (i*6+3);have n:Hid (IW w g m S1 (w4.setCell ⟨gp,i*6+3,none⟩ i0)):=by
    refine⟨?_,E8⟩
    rw[N.out];unfold jq;rw[cR h0];simp only[lu,fG]at M6;exact M6
   simp only[dw]at i9;clear M6 E7 E8 C M5 E6 h0;go_wp2;go_meet;exact n
  ·have e1:(ph==0)=false:=by simp[h0]
   have n:Hid (IW w g m S1 w4):=by
    refine⟨?_,E6⟩
    rw[N.out];unfold jq;rw[cN h0];exact M5
   clear M5 E6 h0;go_wp2;go_meet;exact n
 case rest=>
  obtain⟨M6,E7⟩:=hcut;have hn:m.f.now=m.f.now:=rfl;have ao:p.l.toNat=q:=by rw[hq.out];rfl
  rcases Q.out with he|⟨he,-⟩|⟨he,-⟩
  ·subst he;have hf:jT w g m (jl S i ph lf) (.returned (.tuple #[])) wc:=by
    rw[J.out,cR rfl,I.out,cN (by decide),cN (by decide),←L.out];exact⟨rfl,m,M6,E7,hn⟩
   clear M6 E7;go_wp2;exact fO (v:=.tuple #[]) (by simp[results,results84,go_sem]) rfl hf
  ·subst he;change Hid _ at M6 E7;go_upto_region 6 with fail;have M7:=M6.out.below bd;have E8:=E7.out.trans (Er.below bd);clear M6 E7;have C:=M7.own hP F u;have D:=M7.fc;have i9:=M7.c9 hP;have c0:=C.c0;have T:(jq p ph lf).l=p.l:=rfl;rw[T]at c0;refine gZ (S:=fun W=>Cv W g 522 m.f.iv∧Cv W g 523 m.f.now∧Cv W g 524 (.slice m.A m.f.ls.length m.c)∧Cv W g 525 (.slice m.B m.f.dP.length m.d)∧Cv W g 9 (.slice (some ⟨gp,0,none⟩) S1.ps.length m.cp)∧Cv W gp (i*6) p.l∧W.rangeAt g 10 (fP m.R)) [21] ⟨D.c0,D.c1,D.c2,D.c3,i9,c0,M7.c.pd.range⟩ (fun b=>?_);generalize wc.drew=w5 at *;clear C D i9 c0;change Hid _ at M7 E8;(iterate 4 refine uA ?_);refine zA ?_;(iterate 3 refine uA ?_);refine zA ?_;(iterate 3 refine uA ?_);refine zA ?_;(iterate 3 refine uA ?_);refine pS (i:=16) (R:=m.R) (some 53) rfl rfl (by kernel_rfl) (by kernel_rfl) (by kernel_rfl) (by kernel_rfl) (fun _ _ _ h=>h) rfl (.tmp 52) rfl (g:=g) (off:=10) rfl (fun w hw=>hw.2.2.2.2.2.2) b ?_
   try simp only[Act.put,eH,List.set_cons_succ,List.set_cons_zero]
   refine rZ 17 (fun K hK=>?_);go_simp;refine (Fp _ _).mono ?_;rintro e w6 ⟨A1,c1,rfl,af,ak⟩;dsimp only;have M8:=M7.out.below ak;have E9:=E8.out.trans (Er.below ak);have C:=M8.own hP F u;have D:=M8.fc;have i9:=M8.c9 hP;have c0:=C.c0;rw[T]at c0;refine hK _ _ (fun _=>⟨D.c0,D.c1,D.c2,D.c3,i9,c0,M8.c.pd.range⟩) (fun a=>?_);replace b:=a (by decide);obtain⟨am,-,-,-⟩:=kG af;have ai:∀s∈(nN m.R).map Ma,l7 w6 s.y s.A s.c s.B s.d:=fun s hs=>by
    obtain⟨t,ht,rfl⟩:=dL.1 hs;obtain⟨j,hj,rfl⟩:=Qy ht;exact M8.v.rd j hj
   have hlen:=Mt m.R;have ah:=M8.sz;have UP:=Fd.RX w6 m.A m.c m.B m.d m.f M8.ME M8.KP M8.dP A1 (nN m.R).length c1 ((nN m.R).map Ma) (by rw[UJ];exact am) (by simp) (fun s hs=>(ai s hs).la) (by omega) (by omega) p.l;have G:=Fd.Rg (P:=fun s=>l7 w6 s.y s.A s.c s.B s.d) M8.v.it p.l ((nN m.R).map Ma) ai;have ar:∀s∈(nN m.R).map Ma,dS s.y:=fun s hs=>by
    refine ag _ ?_;rw[←aa.out,←GF,←PY];exact List.mem_map_of_mem hs
   have hrel:=M8.p.fl.up ax ar;rw[PY,GF,aa.out,←hq.out]at hrel;clear hK K a C D i9 c0 M7 E8 af am ai ar hlen ah ak;change Hid _ at M8 E9 G hrel;replace UP:=φ UP;refine rZ 18 (fun K hK=>?_);go_simp;refine UP.out.mono ?_;rintro e w7 ⟨A2,c2,B2,d2,rfl,hl,U,O⟩;dsimp only;have M9:=M8.out.below O;have C:=M9.own hP F u;have D:=M9.fc;have i9:=M9.c9 hP;have c0:=C.c0;rw[T]at c0;refine hK _ _ (fun _=>⟨D.c0,D.c1,D.c2,D.c3,i9,c0,M9.c.pd.range⟩) (fun a=>?_);clear b;have b:=a (by decide);clear hK K a C D i9 c0;(iterate 2 refine uA ?_);have E:=Fd.Ve m.f p.l ((nN m.R).map Ma);obtain⟨V,X⟩:=M8.out.MH hl U O _ hrel E G;have z:=E9.out.trans X;have H:(m.vj (Fd.Bo m.f p.l ((nN m.R).map Ma)) A2 c2 B2 d2).f.now=m.f.now:=E.2;have x:gJ (im w7 g (Fd.Bo m.f p.l ((nN m.R).map Ma)) A2 c2 B2 d2) g (m.vj (Fd.Bo m.f p.l ((nN m.R).map Ma)) A2 c2 B2 d2) (jB S i ph lf):=by
    rw[I.out,cR rfl,←L.out,ao];exact V
   have y0:=M9.ff (j:=0) (by omega) rfl;have y1:=M9.ff (j:=1) (by omega) rfl;have y2:=M9.ff (j:=2) (by omega) rfl;have y3:=M9.ff (j:=3) (by omega) rfl;have x0:=M9.fc.c0;have x1:=M9.fc.c1;have x2:=M9.fc.c2;have x3:=M9.fc.c3;generalize m.vj (Fd.Bo m.f p.l ((nN m.R).map Ma)) A2 c2 B2 d2=m2 at *;obtain⟨w8,r⟩:=ex (im w7 g (Fd.Bo m.f p.l ((nN m.R).map Ma)) A2 c2 B2 d2)
   rw[r]at x z;unfold im at r;change Hid _ at r x z;clear V X E hl U O UP hrel G M8 E9 M9 b;refine rZ 21 (fun K hK=>?_);go_simp;refine zZ hK ?_;clear hK K y0 y1 y2 y3 x0 x1 x2 x3;rw[r.out];clear r;refine dZ ?_;have OG:=sW w8 g m2 _ x Y;have n:Hid (∀w',jT w8 g m2 (ft (jB S i ph lf)) (.returned (.tuple #[])) w'→jT w g m (jl S i ph lf) (.returned (.tuple #[])) w'):=fun w' h=>by
    rw[J.out,cN (by decide)];exact⟨rfl,jt.from z H h.2⟩
   replace OG:=φ OG;clear x z H;go_wp2_with fail;refine OG.out.mono ?_;rintro e w9 ⟨rfl,P9⟩;have hf:=n.out w9 ⟨rfl,P9⟩;clear OG n P9;go_wp2;exact fO (v:=.tuple #[]) (by simp[results,results84,go_sem]) rfl hf
  ·subst he;change Hid _ at M6 E7;go_upto_region 8 with fail;have M7:=M6.out.below bd;have E8:=E7.out.trans (Er.below bd);clear M6 E7;have C:=M7.own hP F u;have D:=M7.fc;have i9:=M7.c9 hP;have c0:=C.c0;have T:(jq p ph lf).l=p.l:=rfl;rw[T]at c0;refine gZ (S:=fun W=>Cv W g 522 m.f.iv∧Cv W g 523 m.f.now∧Cv W g 524 (.slice m.A m.f.ls.length m.c)∧Cv W g 525 (.slice m.B m.f.dP.length m.d)∧Cv W g 9 (.slice (some ⟨gp,0,none⟩) S1.ps.length m.cp)∧Cv W gp (i*6) p.l) [16] ⟨D.c0,D.c1,D.c2,D.c3,i9,c0⟩ (fun b=>?_);generalize wc.drew=w5 at *;clear C D i9 c0;have ah:=M7.sz;have DN:=Fd.Cr w5 m.A m.c m.B m.d m.f M7.ME M7.KP (by omega) (by omega) p.l;have G:=Fd.Ec (P:=fun s=>l7 w5 s.y s.A s.c s.B s.d) M7.v.it p.l;have hrel:=M7.p.fl.down q;rw[←hq.out]at hrel;clear ah;change Hid _ at M7 E8 G hrel;replace DN:=φ DN;(iterate 4 refine uA ?_);refine zA ?_;(iterate 3 refine uA ?_);refine zA ?_;(iterate 3 refine uA ?_);refine zA ?_;refine rZ 13 (fun K hK=>?_);go_simp;refine DN.out.mono ?_;rintro e w7 ⟨A2,c2,B2,d2,rfl,hl,U,O⟩;dsimp only;have M9:=M7.out.below O;have C:=M9.own hP F u;have D:=M9.fc;have i9:=M9.c9 hP;have c0:=C.c0;rw[T]at c0;refine hK _ _ (fun _=>⟨D.c0,D.c1,D.c2,D.c3,i9,c0⟩) (fun a=>?_);clear b;have b:=a (by decide);clear hK K a C D i9 c0;(iterate 2 refine uA ?_);have E:(Fd.xx m.f p.l).iv=m.f.iv∧(Fd.xx m.f p.l).now=m.f.now:=⟨rfl,rfl⟩
   obtain⟨V,X⟩:=M7.out.MH hl U O _ hrel E G;have z:=E8.out.trans X;have H:(m.vj (Fd.xx m.f p.l) A2 c2 B2 d2).f.now=m.f.now:=rfl;have x:gJ (im w7 g (Fd.xx m.f p.l) A2 c2 B2 d2) g (m.vj (Fd.xx m.f p.l) A2 c2 B2 d2) (jB S i ph lf):=by
    rw[I.out,cN (by decide),cR rfl,←L.out,ao];exact V
   have y0:=M9.ff (j:=0) (by omega) rfl;have y1:=M9.ff (j:=1) (by omega) rfl;have y2:=M9.ff (j:=2) (by omega) rfl;have y3:=M9.ff (j:=3) (by omega) rfl;have x0:=M9.fc.c0;have x1:=M9.fc.c1;have x2:=M9.fc.c2;have x3:=M9.fc.c3;obtain⟨w8,r⟩:=ex (im w7 g (Fd.xx m.f p.l) A2 c2 B2 d2)
   generalize m.vj (Fd.xx m.f p.l) A2 c2 B2 d2=m2 at *;rw[r]at x z;unfold im at r;change Hid _ at r x z;clear V X E hl U O DN hrel G M7 E8 M9 b;refine rZ 16 (fun K hK=>?_);go_simp;refine zZ hK ?_;clear hK K y0 y1 y2 y3 x0 x1 x2 x3;rw[r.out];clear r;refine dZ ?_;have OG:=sW w8 g m2 _ x Y;have n:Hid (∀w',jT w8 g m2 (ft (jB S i ph lf)) (.returned (.tuple #[])) w'→jT w g m (jl S i ph lf) (.returned (.tuple #[])) w'):=fun w' h=>by
    rw[J.out,cN (by decide)];exact⟨rfl,jt.from z H h.2⟩
   replace OG:=φ OG;clear x z H;go_wp2_with fail;refine OG.out.mono ?_;rintro e w9 ⟨rfl,P9⟩;have hf:=n.out w9 ⟨rfl,P9⟩;clear OG n P9;go_wp2;exact fO (v:=.tuple #[]) (by simp[results,results84,go_sem]) rfl hf
end
section
variable [Inhabited BY]
def Ah(S:Sp)(l:Int):Int:=match jZ S.ps l with|none=>-1|some i=>(i:Int)
def KS(w:World)(g:Nat)(m:Rm)(S:Sp)(M:gJ w g m S)(l:Int) :
  Calls prog 43 #[.pointer (some ⟨g,0,none⟩),l] w fun e w'=>e= .returned (.int .i64 (Ah S l))∧w=w':=by
 have i9:=M.c0 9 rfl;unfold qB at i9;have n:=M.p.pl;have d:=fun(hn:0<S.ps.length)=>M.gp hn
 have f:=fun gp (hP:m.P=some ⟨gp,0,none⟩) i (hi:i<S.ps.length)=>M.VK hP hi
 have c:Hid (∀_:(∀i (hi:i<S.ps.length),S.ps[i].l≠l),Ah S l= -1):=fun hn=>by unfold Ah;rw[Ao hn]
 have a:Hid (∀i (hi:i<S.ps.length),S.ps[i].l=l→(∀j (hj:j<i),(S.ps[j]'(by omega)).l≠l)→Ah S l=(i:Int)):=fun i hi h1 h2=>by unfold Ah;rw[An hi h1 h2]
 generalize Ah S l=r at *;clear M;go_in;go_wp2_with fail;go_loop [5] (fun v5=>∃i:Nat,v5= .int .i64 i∧i≤S.ps.length∧Hid (∀j (hj:j<i) (h:j<S.ps.length),S.ps[j].l≠l)) (fun v5=>S.ps.length - (intOf v5).toNat)
 case atStart=>exact⟨0,rfl,by omega,fun j hj=>by omega⟩
 case round=>
  obtain⟨i,rfl,hi,hn⟩:=hrel
  by_cases hin:i<S.ps.length
  ·obtain⟨gp,hP⟩:=d (by omega);have hp:=f gp hP i hin;obtain⟨p,b⟩:=ex (S.ps[i])
   rw[b]at hp;have c0:=hp.c0;rw[hP]at i9
   by_cases hl2:p.l=l
   ·have e1:(p.l==l)=true:=by simp[hl2]
    obtain rfl:=a.out i hin (by rw[b];exact hl2) (fun j hj=>hn j hj (by omega));clear d f c a b hp hn;go_wp2;go_ret;exact⟨rfl,rfl⟩
   ·have e1:(p.l==l)=false:=by simp[hl2]
    have k:Hid (∀j (hj:j<i+1) (h:j<S.ps.length),S.ps[j].l≠l):=fun j hj h=>by
     by_cases e:j=i
     ·subst e;rw[b];exact hl2
     ·exact hn j (by omega) h
    clear d f c a b hp hn;go_wp2;go_round
    case rel=>exact⟨i+1,by go_num,by omega,k⟩
    case measure=>simp[intOf];omega
  ·obtain rfl:=c.out (fun j hj=>hn j (by omega) hj);have e1:decide ((i:Int)< (S.ps.length:Int))=false:=by simp;omega
   clear d f c a hn;go_wp2;go_ret;exact⟨rfl,rfl⟩
def KT(w:World)(g:Nat)(m:Rm)(S:Sp)(M:gJ w g m S)(ok:eO S)(i:Nat)(hi:i<S.ps.length) :
  Calls prog 45 #[.pointer (some ⟨g,0,none⟩),i] w (jT w g m (jl S i 0 0)):=by
 have BE:=φ (Eg w g m S M ok i hi 0 0 (by decide));clear M ok;go_in;go_wp2_with fail;refine BE.out.mono ?_;rintro e w1 ⟨rfl,P⟩;have hf:jT w g m (jl S i 0 0) (.returned (.tuple #[])) w1:=⟨rfl,P⟩
 clear BE P;go_wp2;exact fO (v:=.tuple #[]) (by simp[results,results45,go_sem]) rfl hf
def Fq(w:World)(g:Nat)(m:Rm)(S:Sp)(M:gJ w g m S)(b:Bool)(pre:List Pf)(Q:cG)(n cq:Nat)(hn:pre.length=n)(hq:Rd w Q (jU pre)∧Row w Q pre.length 181)(hl:pre.length≤cq∧cq≤maxLen∧ ∀p∈pre,p.1<4294967296)(ok:eO { S with ov:=b,pre:=pre }) :
  Calls prog 46 #[.pointer (some ⟨g,0,none⟩),b,.slice Q n cq] w (jT w g m (ft { S with ov:=b,pre:=pre })):=by
 subst hn;obtain⟨M1,E1⟩:=M.YW b pre Q cq hq hl;have OG:=sW _ g _ _ M1 ok;have q0:=M.q0;have q1:=M.q1;have z0:=M.qf (j:=0) (by omega) rfl;have z1:=M.qf (j:=1) (by omega) rfl;have a:Hid (∀w',jt ((w.setCell ⟨g,536,none⟩ (.bool b)).setCell ⟨g,537,none⟩ (.slice Q pre.length cq)) g { m with Q:=Q,cq:=cq } (ft { S with ov:=b,pre:=pre }) w'→jT w g m (ft { S with ov:=b,pre:=pre }) (.returned (.tuple #[])) w'):=fun w' h=>⟨rfl,jt.from E1 rfl h⟩
 replace OG:=φ OG;clear M M1 E1 ok hq;go_in;go_wp2_with fail;refine OG.out.mono ?_;rintro e w1 ⟨rfl,P⟩;have hf:=a.out w1 P;clear OG P a q0 q1 z0 z1;go_wp2;exact fO (v:=.tuple #[]) (by simp[results,results46,go_sem]) rfl hf
def KM(w:World)(g:Nat)(m:Rm)(S:Sp)(M:gJ w g m S)(ok:eO S)(i:Nat)(hi:i<S.ps.length)(c:Int)(hc:1≤c∧c≤65535) :
  Calls prog 49 #[.pointer (some ⟨g,0,none⟩),i,c] w (jT w g m (ft (qS S i c))):=by
 obtain⟨gp,hP⟩:=M.gp (by omega);obtain⟨M1,E1⟩:=M.ke hP hi 2 (by omega) (.int .i64 c) ⟨S.ps[i].l,S.ps[i].o,c,S.ps[i].ph,S.ps[i].lf,S.ps[i].bt⟩ rfl;have e:qS S i c= { S with ps:=S.ps.set i ⟨S.ps[i].l,S.ps[i].o,c,S.ps[i].ph,S.ps[i].lf,S.ps[i].bt⟩ }:=by unfold qS;rw[cM hi]
 rw[←e]at M1;have OG:=sW _ g _ _ M1 (ok.cos hi hc);have i9:=M.c9 hP;have c2:=(M.VK hP hi).c2;have z2:=M.Uw hP (i*6+2);have a:Hid (∀w',jt (w.setCell ⟨gp,i*6+2,none⟩ c) g m (ft (qS S i c)) w'→jT w g m (ft (qS S i c)) (.returned (.tuple #[])) w'):=fun w' h=>⟨rfl,jt.from E1 rfl h⟩
 replace OG:=φ OG;clear M M1 E1 ok e;go_in;go_wp2_with fail;refine OG.out.mono ?_;rintro e w1 ⟨rfl,P⟩;have hf:=a.out w1 P;clear OG P a i9 c2 z2;go_wp2;exact fO (v:=.tuple #[]) (by simp[results,results49,go_sem]) rfl hf
end
end Go.Proofs.YtehimhbgakpenaaGreat
