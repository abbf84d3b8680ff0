/- Lemmas. -/
import Derived.Test.YtehimhbgakpenaaGreatChecked
import Derived.Deep.RegionHeld3
import Derived.Test.YtehimhbgakpenaaGreatA
set_option linter.all false
set_option maxRecDepth 100000
set_option maxHeartbeats 16000000
namespace Go.Proofs.YtehimhbgakpenaaGreat.He
open Go.RowKit Go.Proofs.Tryz
def vQ(p l:Int):Bool:=(p==0&&l==0)||((p==1||p==2)&&decide (1≤l)&&decide (l≤65536))
def oz(p q:Int):Int:=if p=2 then(if q=2 then 0 else 2)else(if q=2 then 1 else 0)
def i7(p l:Int)(w:World) :
  Calls prog 109 #[.agg #[p,l]] w fun e w'=>e= .returned (.bool (vQ p l))∧cI w w':=by
 go_in;go_wp2
 all_goals
  go_ret;refine⟨fg ?_,kQ _ _⟩
  first
   |(simp[vQ, *];done)
   |(simp[vQ, *]at *;omega)
def CW(a b c d:Bool)(w:World):(Op.equalIn 10000 271 (.agg #[a,b]) (.agg #[c,d])).run prog w= .ok (a==c&&b==d) w:=by
 cases a<;>cases b<;>cases c<;>cases d<;>kernel_rfl
def xV(p q:Int)(w:World) :
  Calls prog 110 #[p,q] w fun e w'=>e= .returned (.int .i64 (oz p q))∧w=w':=by
 have H:∀b c,(p==2)=b→(q==2)=c→Calls prog 110 #[p,q] w fun e w'=>e= .returned (.int .i64 (oz p q))∧w=w':=by
  intro b c hb hc;have e1:=CW b c false true w;have e2:=CW b c true false w;cases b<;>cases c
  all_goals
   go_in;go_wp2;go_ret;refine⟨tR ?_,rfl⟩
   simp at hb hc;simp[oz,hb,hc]
 exact H _ _ rfl rfl
abbrev wH(w:World)(p l:Int):World:=(w.alloc (.cells #[p,l] 116)).alloc (.cells #[i0,i0] 116)
def hs{w x:World}{p l:Int}(b:Below (wH w p l).heap.size (wH w p l) x):x.cell? ⟨w,0,none⟩=some (.int .i64 p)∧x.cell? ⟨w,1,none⟩=some (.int .i64 l)∧x.cell? ⟨w.heap.size+1,0,none⟩=some i0∧x.cell? ⟨w.heap.size+1,1,none⟩=some i0∧x.frozen? ⟨w.heap.size+1,0,none⟩=false∧x.frozen? ⟨w.heap.size+1,1,none⟩=false∧cI w x∧w.heap.size+1<x:=
 ⟨cW b (by simp),cW b (by simp),cW b (by simp),cW b (by simp),fL b (v:=i0) (by simp) (by simp),fL b (v:=i0) (by simp) (by simp),((kQ w _).alloc (by simp) _).trans (b.mono (by simp;omega)),by have:=b.size;simp at this;omega⟩
def HH(p l hold:Int)(seen:Bool)(w:World)(hv:vQ p l=true)(h1:1≤hold)(h2:hold≤65536) :
  Calls prog 118 #[.agg #[.int .i64 p,l],seen,hold] w fun e w'=>
   e= .returned (.tuple #[.agg #[.int .i64 (if seen then 2 else 1),hold],.int .i64 (oz p (if seen then 2 else 1)),.int .i64 0])∧cI w w':=by
 have V:=i7 p l (wH w p l);rw[hv]at V;clear hv;cases seen
 ·go_in;go_wp2_with fail;(with_reducible refine V.mono ?_);rintro e w1 ⟨rfl,b⟩;obtain⟨c0,-,c1,c2,f1,f2,c,hz⟩:=hs b
  clear V b;go_wp2_with fail;have hn:=kQ w1 (.cells #[.int .i64 1,hold] 116);have c0:=cW hn c0;have f1:=fL hn c1 f1;have f2:=fL hn c2 f2;have c1:=cW hn c1;have c2:=cW hn c2;have d1:(w1.alloc (.cells #[.int .i64 1,hold] 116)).cell? ⟨w1,0,none⟩=some (.int .i64 1):=by simp
  have d2:(w1.alloc (.cells #[.int .i64 1,hold] 116)).cell? ⟨w1,1,none⟩=some (.int .i64 hold):=by simp
  have d:=c.trans (hn.mono c.size);have n1:¬w.heap.size=w1.heap.size:=by omega
  have n2:¬w1.heap.size=w.heap.size+1:=by omega
  have n3:¬w.heap.size+1=w1.heap.size:=by omega
  clear c hn hz;generalize w1.alloc (.cells #[.int .i64 1,hold] 116)=w2 at *;go_region_held3 (fun w'=>w'.cell? ⟨w,0,none⟩=some (.int .i64 p)∧w'.cell? ⟨w1,0,none⟩=some (.int .i64 1)∧w'.cell? ⟨w1,1,none⟩=some (.int .i64 hold)) (go_keep) (first|(go_at_call 110;refine(xV _ _ _).mono ?_;rintro e w' ⟨rfl,rfl⟩))
  go_wp2;exact dc (v:=.tuple #[.agg #[.int .i64 1,hold],.int .i64 (oz p 1),.int .i64 0]) (by simp[results,results118,go_sem,c1,c2]) rfl ⟨rfl,((d.setCell (p:=⟨w.heap.size+1,0,none⟩) cC _).setCell (p:=⟨w.heap.size+1,1,none⟩) cC _).drew⟩
 ·go_in;go_wp2_with fail;(with_reducible refine V.mono ?_);rintro e w1 ⟨rfl,b⟩;obtain⟨c0,-,c1,c2,f1,f2,c,hz⟩:=hs b
  clear V b;go_wp2_with fail;have hn:=kQ w1 (.cells #[.int .i64 2,hold] 116);have c0:=cW hn c0;have f1:=fL hn c1 f1;have f2:=fL hn c2 f2;have c1:=cW hn c1;have c2:=cW hn c2;have d1:(w1.alloc (.cells #[.int .i64 2,hold] 116)).cell? ⟨w1,0,none⟩=some (.int .i64 2):=by simp
  have d2:(w1.alloc (.cells #[.int .i64 2,hold] 116)).cell? ⟨w1,1,none⟩=some (.int .i64 hold):=by simp
  have d:=c.trans (hn.mono c.size);have n1:¬w.heap.size=w1.heap.size:=by omega
  have n2:¬w1.heap.size=w.heap.size+1:=by omega
  have n3:¬w.heap.size+1=w1.heap.size:=by omega
  clear c hn hz;generalize w1.alloc (.cells #[.int .i64 2,hold] 116)=w2 at *;go_region_held3 (fun w'=>w'.cell? ⟨w,0,none⟩=some (.int .i64 p)∧w'.cell? ⟨w1,0,none⟩=some (.int .i64 2)∧w'.cell? ⟨w1,1,none⟩=some (.int .i64 hold)) (go_keep) (first|(go_at_call 110;refine(xV _ _ _).mono ?_;rintro e w' ⟨rfl,rfl⟩))
  go_wp2;exact dc (v:=.tuple #[.agg #[.int .i64 2,hold],.int .i64 (oz p 2),.int .i64 0]) (by simp[results,results118,go_sem,c1,c2]) rfl ⟨rfl,((d.setCell (p:=⟨w.heap.size+1,0,none⟩) cC _).setCell (p:=⟨w.heap.size+1,1,none⟩) cC _).drew⟩
def Ea(p l:Int)(w:World)(h:vQ p l=true) :
  Calls prog 64 #[.agg #[p,l]] w fun e w'=>
   e= .returned (.tuple #[.agg #[.int .i64 0,.int .i64 0],(oz p 0),.int .i64 0])∧cI w w':=by
 have V:=i7 p l (wH w p l);rw[h]at V;clear h;go_in;go_wp2_with fail;refine V.mono ?_;rintro e w1 ⟨rfl,b⟩;obtain⟨c0,-,c1,c2,f1,f2,c,-⟩:=hs b;clear V b;go_wp2_with fail;refine (xV _ _ _).mono ?_;rintro e w' ⟨rfl,rfl⟩;go_wp2;exact dc (v:=.tuple #[.agg #[i0,i0],(oz p 0),i0]) (by simp[results,results64,go_sem,c1,c2]) rfl ⟨rfl,(c.setCell (p:=⟨w.heap.size+1,0,none⟩) cC _).setCell (p:=⟨w.heap.size+1,1,none⟩) cC _⟩
def Hk(p l n:Int)(w:World)(h:vQ p l=true)(hn:0<n)(hp:(p==0)=true) :
  Calls prog 90 #[.agg #[p,l],n] w fun e w'=>
   e= .returned (.tuple #[.agg #[p,l],.int .i64 0,.int .i64 0])∧cI w w':=by
 have V:=i7 p l (wH w p l);rw[h]at V;clear h;go_in;go_wp2_with fail;refine V.mono ?_;rintro e w1 ⟨rfl,b⟩;obtain⟨c0,c3,c1,c2,f1,f2,c,-⟩:=hs b;clear V b;go_wp2;exact dc (v:=.tuple #[.agg #[p,l],i0,i0]) (by simp[results,results90,go_sem,c1,c2]) rfl ⟨rfl,(c.setCell (p:=⟨w.heap.size+1,0,none⟩) cC _).setCell (p:=⟨w.heap.size+1,1,none⟩) cC _⟩
def Rq(p l n:Int)(w:World)(h:vQ p l=true)(hn:0<n)(hp:(p==0)=false)(hl:n<l)(d:l≤65536) :
  Calls prog 90 #[.agg #[p,l],n] w fun e w'=>
   e= .returned (.tuple #[.agg #[p,(l - n)],.int .i64 0,.int .i64 0])∧cI w w':=by
 have V:=i7 p l (wH w p l);rw[h]at V;clear h;go_in;go_wp2_with fail;refine V.mono ?_;rintro e w1 ⟨rfl,b⟩;obtain⟨c0,c3,c1,c2,f1,f2,c,-⟩:=hs b;clear V b;go_wp2;exact dc (v:=.tuple #[.agg #[p,(l - n)],i0,i0]) (by simp[results,results90,go_sem,c1,c2]) rfl ⟨rfl,(c.setCell (p:=⟨w.heap.size+1,0,none⟩) cC _).setCell (p:=⟨w.heap.size+1,1,none⟩) cC _⟩
def Kw(p l n:Int)(w:World)(h:vQ p l=true)(hn:0<n)(hp:(p==0)=false)(hl:l≤n) :
  Calls prog 90 #[.agg #[p,l],n] w fun e w'=>
   e= .returned (.tuple #[.agg #[.int .i64 0,.int .i64 0],(oz p 0),.int .i64 0])∧cI w w':=by
 have F:=fun W=>Ea p l W h
 have V:=i7 p l (wH w p l);rw[h]at V;clear h;go_in;go_wp2_with fail;refine V.mono ?_;rintro e w1 ⟨rfl,b⟩;obtain⟨c0,c3,c1,c2,f1,f2,d,-⟩:=hs b;clear V b;go_wp2_with fail;refine (F _).mono ?_;rintro e w2 ⟨rfl,c⟩;have f1:=fL c c1 f1;have f2:=fL c c2 f2;have c1:=cW c c1;have c2:=cW c c2;have d:=d.trans (c.mono d.size);clear F c;go_wp2;exact dc (v:=.tuple #[.agg #[i0,i0],(oz p 0),i0]) (by simp[results,results90,go_sem,c1,c2]) rfl ⟨rfl,(d.setCell (p:=⟨w.heap.size+1,0,none⟩) cC _).setCell (p:=⟨w.heap.size+1,1,none⟩) cC _⟩
def vc(p l n:Int):Int:=if n≤0∨p=0 then p else if l≤n then 0 else p
def Bp(p l n:Int):Int:=if n≤0∨p=0 then l else if l≤n then 0 else l - n
def Gm(p:Int):oz p p=0:=by unfold oz;split<;>rfl
def Hc{p l:Int}(h:vQ p l=true):0≤l∧l≤65536∧0≤p∧p≤2∧(p=0↔l=0):=by
 simp[vQ]at h;omega
def Ds(p l n:Int)(w:World)(h:vQ p l=true)(hn:¬n≤0) :
  Calls prog 90 #[.agg #[p,l],n] w fun e w'=>
   e= .returned (.tuple #[.agg #[(vc p l n),(Bp p l n)],.int .i64 (oz p (vc p l n)),.int .i64 0])∧cI w w':=by
 have hl:=Hc h
 by_cases hp:p=0
 ·have e1:vc p l n=p:=by simp[vc,hp]
  have e2:Bp p l n=l:=by simp[Bp,hp]
  rw[e1,e2,Gm];exact Hk p l n w h (by omega) (by simpa using hp)
 ·by_cases hk:l≤n
  ·have e1:vc p l n=0:=by simp[vc,hn,hp,hk]
   have e2:Bp p l n=0:=by simp[Bp,hn,hp,hk]
   rw[e1,e2];exact Kw p l n w h (by omega) (by simpa using hp) hk
  ·have e1:vc p l n=p:=by simp[vc,hk]
   have e2:Bp p l n=l - n:=by simp[Bp,hn,hp,hk]
   rw[e1,e2,Gm];exact Rq p l n w h (by omega) (by simpa using hp) (by omega) (by omega)
end Go.Proofs.YtehimhbgakpenaaGreat.He
