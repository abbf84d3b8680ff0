/- Lemmas. -/
import Derived.Shelf.SlIterI.Nil
import Derived.Shelf.SortM.Plain
import Derived.Shelf.SortM.SortNone
import Derived.Ground.GgzProg
import Derived.Ground.SlgmProg
import Derived.Test.YtehimhbgakpenaaGreatProg
import Derived.Shelf.AbstractIn
import Derived.Test.YtehimhbgakpenaaGreatG
import Derived.Test.YtehimhbgakpenaaGreatK
set_option linter.all false
set_option maxRecDepth 100000
set_option maxHeartbeats 16000000
namespace Go.Proofs.YtehimhbgakpenaaGreat.Fd
open Go.RowKit Go.Maps Go.Sort Go.Proofs.Tryz
structure Hd where
 x:La
 l:Int
abbrev Db:=Nat→Option Hd
abbrev Fn:=Nat→Option Db
abbrev vM(x:La)(A:cG)(c:Nat)(B:cG)(d:Nat)(l:Int):Value:=.agg #[x.o,x.s,x.a,x.ov,.slice A x.adj.length c,.slice B x.pre.length d,l]
abbrev JP:Value:=.agg #[.int .i64 0,.int .i64 0,.int .i64 0,false,.slice none 0 0,.slice none 0 0,.int .i64 0]
def rV(w:World)(A:cG)(n:Nat)(e:TypeId):Prop:=0<n→ ∀ad,A=some ad→ ∃cs fr,w.heap[ad.block]?=some (.cells cs e fr)
def rV.uB{w w':World}{A:cG}{n:Nat}{e:TypeId}(h:rV w A n e)(hk:∀k cs fr,k<w.heap.size→w.heap[k]?=some (.cells cs e fr)→w'.heap[k]?=w.heap[k]?):rV w' A n e:=fun hn ad ha=>by
 obtain⟨cs,fr,e⟩:=h hn ad ha;exact⟨cs,fr,(hk _ cs fr (df.1 e).1 e).trans e⟩
def rV.below{w w':World}{A:cG}{n:Nat}{e:TypeId}(h:rV w A n e)(hb:cI w w'):rV w' A n e:=h.uB fun k cs fr hk _=>hb.block k hk
def sD(w:World)(x:La)(A:cG)(c:Nat)(B:cG)(d:Nat):Prop:=eU w (ig x.o x.s x.a x.ov A x.adj.length c B x.pre.length d) x∧rV w A x.adj.length 169∧rV w B x.pre.length 181
def sD.below{w w':World}{x:La}{A:cG}{c:Nat}{B:cG}{d:Nat}(h:sD w x A c B d)(hb:cI w w'):sD w' x A c B d:=⟨eU.below h.1 hb,h.2.1.below hb,h.2.2.below hb⟩
def rH{w:World}{base:Nat}{e:TypeId}{size:Nat}{A:cG}{n c:Nat}{xs:cH}(h:w.ownsRow base e size (.slice A n c) n xs):rV w A n e:=fun hn ad ha=>by
 rcases h.2 with ⟨h2,h3⟩|⟨g,cap,cur,h2,a,hh,r⟩
 ·omega
 ·injection h2 with h2 _ _
  rw[ha]at h2;injection h2 with h2
  subst h2;exact⟨_,_,hh⟩
def iu(w:World):Option Value→Option Hd→Prop
 |none,none=>True
 |some v,some h=>∃A c B d,v=vM h.x A c B d h.l∧sD w h.x A c B d
 |_,_=>False
def iu.below{w w':World}{v:Option Value}{h:Option Hd}(he:iu w v h)(hb:Below w.heap.size w w'):iu w' v h:=by
 match v,h,he with
 |none,none,_=>trivial
 |some v,some h,⟨A,c,B,d,e,hl⟩=>exact⟨A,c,B,d,e,hl.below hb⟩
def iu.isS{w:World}{v:Option Value}{h:Option Hd}(he:iu w v h):v.isSome=h.isSome:=by
 match v,h,he with
 |none,none,_=>rfl
 |some v,some h,_=>rfl
structure Kq (w w':World):Prop where
 os:w'.os=w.os
 tape:w'.tape=w.tape
 output:w'.output=w.output
 size:w.heap.size≤w'.heap.size
 block:∀k,k<w.heap.size→(∀es c,w.heap[k]?≠some (.map es c))→w'.heap[k]?=w.heap[k]?
section
variable {w w' w'':World}
def Kq.trans(h:Kq w w')(h2:Kq w' w''):Kq w w'' :=
 ⟨h2.os.trans h.os,h2.tape.trans h.tape,h2.output.trans h.output,Nat.le_trans h.size h2.size,fun k hk a=>(h2.block k (Nat.lt_of_lt_of_le hk h.size) (by rw[h.block k hk a];exact a)).trans (h.block k hk a)⟩
def Kq.qH(hb:Below w.heap.size w w'):Kq w w':=⟨hb.os,hb.tape,hb.output,hb.size,fun k hk _=>hb.block k hk⟩
def dV.isMap{B b:Nat}{M:Int→Option Value}(h:dV B w b M):∃es c,w.heap[b]?=some (.map es c):=by
 obtain⟨D,⟨es,clock,hb,_⟩,_⟩:=h;exact⟨es,clock,hb⟩
def Kq.of_map{B b:Nat}{M:Int→Option Value}(h:dV B w b M)(hg:w.grownBy w' (some b)):Kq w w':=by
 obtain⟨es,c,hm⟩:=h.isMap;exact⟨hg.os,hg.tape,hg.output,hg.size,fun k hk a=>hg.block k hk (fun e=>by injection e with e;subst e;exact a _ _ hm)⟩
def sf{a:Addr}{v:Value}(h:w.cell? a=some v):∀es c,w.heap[a.block]?≠some (.map es c):=fun es c e=>by
 simp[World.cell?,e]at h
def Kq.cell(h:Kq w w'){a:Addr}{v:Value}(hc:w.cell? a=some v):w'.cell? a=some v:=by
 rw[World.cell?_of_block (h.block a.block (World.block_lt_of_cell? _ _ hc) (sf hc))];exact hc
def Kq.rd(h:Kq w w'){A:cG}{xs:cH}(hr:Rd w A xs):Rd w' A xs:=fun hn=>by
 obtain⟨ad,e,hc⟩:=hr hn;exact⟨ad,e,fun j u hu=>h.cell (hc j u hu)⟩
def Kq.box(h:Kq w w'){g:Nat}{cs:cH}(hb:fq w g cs):fq w' g cs:=fun i u hu=>by
 obtain⟨h1,h2⟩:=hb i u hu;have hk:=h.block g (World.block_lt_of_cell? _ _ h1) (sf h1);exact⟨h.cell h1,(World.frozen?_of_block (a:=⟨g,i,none⟩) hk).trans h2⟩
def Kq.la(h:Kq w w'){v:Value}{x:La}(hl:eU w v x):eU w' v x:=by
 obtain⟨A,c,B,d,rfl,h1,h2,h3⟩:=hl;exact⟨A,c,B,d,rfl,h.rd h1,h.rd h2,h3⟩
def Kq.Zb(h:Kq w w'){x:La}{A:cG}{c:Nat}{B:cG}{d:Nat}(hl:sD w x A c B d):sD w' x A c B d :=
 ⟨h.la hl.1,hl.2.1.uB fun k cs fr hk e=>h.block k hk (fun es c2 e2=>by rw[e]at e2;cases e2),hl.2.2.uB fun k cs fr hk e=>h.block k hk (fun es c2 e2=>by rw[e]at e2;cases e2)⟩
def Kq.el(h:Kq w w'){v:Option Value}{x:Option Hd}(he:iu w v x):iu w' v x:=by
 match v,x,he with
 |none,none,_=>trivial
 |some v,some x,⟨A,c,B,d,e,hl⟩=>exact⟨A,c,B,d,e,h.Zb hl⟩
def Kq.own(h:Kq w w'){base:Nat}{e:TypeId}{size:Nat}{v:Value}{n:Nat}{xs:cH}(ho:w.ownsRow base e size v n xs):w'.ownsRow base e size v n xs:=by
 refine⟨ho.1,?_⟩
 rcases ho.2 with h2|⟨g,cap,cur,rfl,a,hh,r⟩
 ·exact .inl h2
 ·exact .inr ⟨g,cap,cur,rfl,a,(h.block g (ho.lt g rfl).2 (fun es c e=>by rw[hh]at e;cases e)).trans hh,r⟩
def Kq.XT(h:Kq w w'){base:Nat}{v:Value}{x:La}(hl:fh w base v x):fh w' base v x:=by
 obtain⟨A,c,B,d,rfl,h1,h2,h3⟩:=hl;exact⟨A,c,B,d,rfl,h.own h1,h.own h2,h3⟩
end
def sF(N:Fn)(f:Nat→Nat):Int→Option Value:=fun i=>if 0≤i∧i<256 then(N i.toNat).map (fun _=>.map (some (f i.toNat)))else none
def rK{N:Fn}{f:Nat→Nat}{i:Nat}(hi:i<256):sF N f (i:Int)=(N i).map (fun _=>.map (some (f i))):=by
 unfold sF;rw[cR ⟨by omega,by omega⟩,cU]
def xq(w:World)(k:Nat)(D:Db):Prop:=∃M,dV 64 w k M∧ ∀o:Nat,o<64→iu w (M (o:Int)) (D o)
structure fR (w:World) (g b:Nat) (iv:Int) (N:Fn) (f:Nat→Nat):Prop where
 c0:w.cell? ⟨g,0,none⟩=some (.int .i64 iv)
 c1:w.cell? ⟨g,1,none⟩=some (.map (some b))
 nb:dV 256 w b (sF N f)
 el:∀i,i<256→ ∀D,N i=some D→xq w (f i) D
 ne:∀i,i<256→(N i).isSome=true→f i≠b
 inj:∀i j,i<256→j<256→(N i).isSome=true→(N j).isSome=true→f i=f j→i=j
def xq.below{w w':World}{k:Nat}{D:Db}(h:xq w k D)(hb:cI w w'):xq w' k D:=by
 obtain⟨M,hm,he⟩:=h;exact⟨M,hm.below hb,fun o ho=>(he o ho).below hb⟩
def xq.kept{w w':World}{k j:Nat}{D:Db}(h:xq w k D)(hq:Kq w w')(hg:w.grownBy w' (some j))(hne:k≠j):xq w' k D:=by
 obtain⟨M,hm,he⟩:=h;exact⟨M,hm.kept hg (fun e=>by injection e with e;exact hne e.symm),fun o ho=>hq.el (he o ho)⟩
def fR.below{w w':World}{g b:Nat}{iv:Int}{N:Fn}{f:Nat→Nat}(h:fR w g b iv N f)(hb:cI w w'):fR w' g b iv N f :=
 ⟨cW hb h.c0,cW hb h.c1,h.nb.below hb,fun i hi D hD=>(h.el i hi D hD).below hb,h.ne,h.inj⟩
def fR.lt{w:World}{g b:Nat}{iv:Int}{N:Fn}{f:Nat→Nat}(h:fR w g b iv N f):g<w∧b<w:=⟨dm _ _ h.c0,h.nb.lt⟩
def fR.Xd{w:World}{g b:Nat}{iv:Int}{N:Fn}{f:Nat→Nat}(h:fR w g b iv N f){i:Nat}(hi:i<256)(hs:(N i).isSome=true):f i<w:=by
 obtain⟨D,hD⟩:=dC.1 hs;obtain⟨M,hm,_⟩:=h.el i hi D hD;exact hm.lt
def fR.uy{w w':World}{g b:Nat}{iv:Int}{N:Fn}{f:Nat→Nat}(h:fR w g b iv N f){i:Nat}(hi:i<256)(hs:(N i).isSome=true){D':Db}(d:xq w' (f i) D')(hg:w.grownBy w' (some (f i))) :
  fR w' g b iv (fun j=>if j=i then some D' else N j) f:=by
 obtain⟨D,hD⟩:=dC.1 hs;obtain⟨M,hm,_⟩:=h.el i hi D hD;have hq:=Kq.of_map hm hg;refine⟨hq.cell h.c0,hq.cell h.c1,?_,fun j hj E hE=>?_,fun j hj a=>?_,fun j k hj hk a c e=>?_⟩
 ·have e:sF (fun j=>if j=i then some D' else N j) f=sF N f:=by
   funext z
   unfold sF;split
   ·by_cases e:z.toNat=i
    ·simp[e,hD]
    ·simp only[cN e]
   ·rfl
  rw[e];exact h.nb.kept hg (fun e=>h.ne i hi hs (by injection e))
 ·by_cases e:j=i
  ·subst e;simp only[gy,dB]at hE;subst hE;exact d
  ·simp only[cN e]at hE;exact(h.el j hj E hE).kept hq hg (fun e2=>e (h.inj j i hj hi (by rw[hE];rfl) hs e2))
 ·by_cases e:j=i
  ·subst e;exact h.ne j hj hs
  ·simp only[cN e]at a;exact h.ne j hj a
 ·refine h.inj j k hj hk ?_ ?_ e
  ·by_cases e:j=i
   ·subst e;exact hs
   ·simpa only[cN e]using a
  ·by_cases e:k=i
   ·subst e;exact hs
   ·simpa only[cN e]using c
def Oy:My 228 231 JP:=⟨underlying228,zeroValue231⟩
def G7:My 160 228 (.map none):=⟨underlying160,by intro w;kernel_rfl⟩
end Go.Proofs.YtehimhbgakpenaaGreat.Fd
namespace Go.Proofs.YtehimhbgakpenaaGreat
open Go.Shelf Go.Proofs.Tryz
def Tryz.CB:Go.Shelf.Ren:=⟨fun|7=>156|10=>185|n=>n,fun|23=>157|26=>3|3=>206|28=>268|0=>0|27=>267|33=>70|4=>4|n=>n,fun|n=>n⟩
def Tryz.UB:Go.Proofs.SlLaysZI.n7 prog Tryz.CB:=⟨by kernel_rfl,⟨Tryz.f156.name,by decide,func156.trans (dU some (by kernel_rfl))⟩,⟨Tryz.f185.name,by decide,func185.trans (dU some (by kernel_rfl))⟩,underlying0,isAgg0,sizeOf0,zeroValue0,underlying4,isAgg4,sizeOf4,zeroValue4,underlying157,isAgg157,sizeOf157,zeroValue157,underlying3,isAgg3,sizeOf3,zeroValue3,underlying267,isAgg267,sizeOf267,zeroValue267,underlying268,isAgg268,sizeOf268,zeroValue268,underlying70,isAgg70,sizeOf70,zeroValue70⟩
def Tryz.zW:Go.Shelf.Ren:=⟨fun|7=>181|10=>197|n=>n,fun|23=>228|26=>3|3=>231|28=>268|0=>0|27=>267|33=>70|4=>4|n=>n,fun|n=>n⟩
def Tryz.Pq:Go.Proofs.SlLaysZI.n7 prog Tryz.zW:=⟨by kernel_rfl,⟨Tryz.f181.name,by decide,func181.trans (dU some (by kernel_rfl))⟩,⟨Tryz.f197.name,by decide,func197.trans (dU some (by kernel_rfl))⟩,underlying0,isAgg0,sizeOf0,zeroValue0,underlying4,isAgg4,sizeOf4,zeroValue4,underlying228,isAgg228,sizeOf228,zeroValue228,underlying3,isAgg3,sizeOf3,zeroValue3,underlying267,isAgg267,sizeOf267,zeroValue267,underlying268,isAgg268,sizeOf268,zeroValue268,underlying70,isAgg70,sizeOf70,zeroValue70⟩
def Tryz.zX:Go.Shelf.Ren:=⟨fun|7=>177|10=>194|n=>n,fun|23=>160|26=>3|3=>228|28=>268|0=>0|27=>267|33=>70|4=>4|n=>n,fun|n=>n⟩
def Tryz.Pr:Go.Proofs.SlLaysZI.n7 prog Tryz.zX:=⟨by kernel_rfl,⟨Tryz.f177.name,by decide,func177.trans (dU some (by kernel_rfl))⟩,⟨Tryz.f194.name,by decide,func194.trans (dU some (by kernel_rfl))⟩,underlying0,isAgg0,sizeOf0,zeroValue0,underlying4,isAgg4,sizeOf4,zeroValue4,underlying160,isAgg160,sizeOf160,zeroValue160,underlying3,isAgg3,sizeOf3,zeroValue3,underlying267,isAgg267,sizeOf267,zeroValue267,underlying268,isAgg268,sizeOf268,zeroValue268,underlying70,isAgg70,sizeOf70,zeroValue70⟩
def Tryz.sY:Go.Shelf.Ren:=⟨fun|6=>155|8=>183|9=>184|11=>198|13=>200|12=>199|23=>211|24=>212|14=>202|15=>203|16=>204|17=>205|18=>206|19=>207|20=>208|21=>209|22=>210|25=>213|26=>214|27=>215|28=>216|29=>217|30=>195|31=>218|n=>n,fun|26=>3|28=>268|24=>58|0=>0|3=>3|37=>275|48=>179|50=>216|4=>4|40=>308|39=>307|45=>207|5=>5|9=>9|51=>316|55=>320|57=>322|58=>276|33=>70|n=>n,fun|n=>n⟩
def Tryz.DW:Go.Proofs.SlLaysZI.n6 prog Tryz.sY:=⟨by kernel_rfl,⟨Tryz.f155.name,by decide,func155.trans (dU some (by kernel_rfl))⟩,⟨Tryz.f183.name,by decide,func183.trans (dU some (by kernel_rfl))⟩,⟨Tryz.f198.name,by decide,func198.trans (dU some (by kernel_rfl))⟩,underlying0,isAgg0,sizeOf0,zeroValue0,underlying58,isAgg58,sizeOf58,zeroValue58,underlying3,isAgg3,sizeOf3,zeroValue3,underlying268,isAgg268,sizeOf268,zeroValue268,by kernel_rfl⟩
def Tryz.Ly:Go.Shelf.Ren:=⟨fun|5=>184|8=>200|7=>199|19=>211|20=>212|10=>202|11=>203|12=>204|13=>205|14=>206|15=>207|16=>208|17=>209|18=>210|30=>213|31=>214|32=>215|33=>216|34=>217|35=>195|40=>218|n=>n,fun|23=>58|25=>3|3=>3|32=>275|22=>58|0=>0|44=>179|46=>216|4=>4|36=>308|35=>307|41=>207|5=>5|9=>9|53=>316|57=>320|63=>322|64=>276|n=>n,fun|n=>n⟩
def Tryz.JH:Go.Proofs.SlLaysM.n5 prog Tryz.Ly:=⟨by kernel_rfl,⟨Tryz.f184.name,by decide,func184.trans (dU some (by kernel_rfl))⟩,⟨Tryz.f199.name,by decide,func199.trans (dU some (by kernel_rfl))⟩,func200.trans (dU some (by kernel_rfl)),⟨Tryz.f202.name,by decide,func202.trans (dU some (by kernel_rfl))⟩,⟨Tryz.f203.name,by decide,func203.trans (dU some (by kernel_rfl))⟩,⟨Tryz.f204.name,by decide,func204.trans (dU some (by kernel_rfl))⟩,⟨Tryz.f205.name,by decide,func205.trans (dU some (by kernel_rfl))⟩,⟨Tryz.f206.name,by decide,func206.trans (dU some (by kernel_rfl))⟩,⟨Tryz.f207.name,by decide,func207.trans (dU some (by kernel_rfl))⟩,⟨Tryz.f208.name,by decide,func208.trans (dU some (by kernel_rfl))⟩,⟨Tryz.f209.name,by decide,func209.trans (dU some (by kernel_rfl))⟩,⟨Tryz.f210.name,by decide,func210.trans (dU some (by kernel_rfl))⟩,func211.trans (dU some (by kernel_rfl)),func212.trans (dU some (by kernel_rfl)),⟨Tryz.f213.name,by decide,func213.trans (dU some (by kernel_rfl))⟩,func214.trans (dU some (by kernel_rfl)),func215.trans (dU some (by kernel_rfl)),⟨Tryz.f216.name,by decide,func216.trans (dU some (by kernel_rfl))⟩,⟨Tryz.f217.name,by decide,func217.trans (dU some (by kernel_rfl))⟩,⟨Tryz.f195.name,by decide,func195.trans (dU some (by kernel_rfl))⟩,⟨Tryz.f218.name,by decide,func218.trans (dU some (by kernel_rfl))⟩,underlying0,isAgg0,sizeOf0,zeroValue0,underlying3,isAgg3,sizeOf3,zeroValue3,underlying4,isAgg4,sizeOf4,zeroValue4,underlying5,isAgg5,sizeOf5,zeroValue5,underlying9,isAgg9,sizeOf9,zeroValue9,underlying58,isAgg58,sizeOf58,zeroValue58,underlying58,isAgg58,sizeOf58,zeroValue58,underlying3,isAgg3,sizeOf3,zeroValue3,underlying275,isAgg275,sizeOf275,zeroValue275,underlying307,isAgg307,sizeOf307,zeroValue307,underlying308,isAgg308,sizeOf308,zeroValue308,underlying207,isAgg207,sizeOf207,zeroValue207,underlying179,isAgg179,sizeOf179,zeroValue179,underlying216,isAgg216,sizeOf216,zeroValue216,underlying316,isAgg316,sizeOf316,zeroValue316,underlying320,isAgg320,sizeOf320,zeroValue320,underlying322,isAgg322,sizeOf322,zeroValue322,underlying276,isAgg276,sizeOf276,zeroValue276⟩
end Go.Proofs.YtehimhbgakpenaaGreat
namespace Go.Proofs.YtehimhbgakpenaaGreat.Fd
open Go.RowKit Go.Maps Go.Sort Go.Shelf Go.Proofs.Tryz
def vW(m:Nat):AnyZI.SortsIn prog Tryz.sY Fence.wide m :=
 ⟨fun Ef off cap ss W hH a b=>iY.2 (AnyM.slices_Sort_int Tryz.JH Ef off cap ss W hH a b),
  fun p cap W=>iY.2 (AnyM.slices_Sort_int_none Tryz.JH p cap W)⟩
def mW(w:World)(B:Nat)(M:Int→Option Value)(e:Ending)(w':World):Prop :=
 ∃A c,e= .returned (.slice A (iz B M).length c)∧w'.ownsRow w 3 1 (.slice A (iz B M).length c) (iz B M).length ((iz B M).map encZ)∧cI w w'
def yv{w w':World}{B:Nat}{M:Int→Option Value}{D:DataW Value}{b nn:Nat}(d:w.ownsMap prog 3 BO b nn D)(hd:iO B D M){v:Value}{ss:List Int}{e:Ending}(he:e= .returned v)(hp:ss.Perm (intKeys D))(a:w'.ownsRow w 3 1 v ss.length ((ss.mergeSort (fun x y=>decide (x≤y))).map encZ))(hb:cI w w'):mW w B M e w':=by
 rw[qy d hd hp]at a;have hl:ss.length=(iz B M).length:=by rw[←qy d hd hp,YM]
 rw[hl]at a;obtain⟨A,c,rfl,_⟩:=dN a;exact⟨A,c,he,a,hb⟩
def LJ(mb:Option Nat)(W:World):Calls prog 181 #[.map mb] W fun e w'=>e= .returned (.func (.func 197) #[] #[.pointer (some ⟨W,0,none⟩)])∧w'=W.alloc (.cells #[.map mb] 228) :=
 (iY (n:=5)).1 (AnyZI.keys_in Tryz.Pq Fence.wide 5 trivial rfl mb W)
def LL(mb:Option Nat)(W:World):Calls prog 177 #[.map mb] W fun e w'=>e= .returned (.func (.func 194) #[] #[.pointer (some ⟨W,0,none⟩)])∧w'=W.alloc (.cells #[.map mb] 160) :=
 (iY (n:=5)).1 (AnyZI.keys_in Tryz.Pr Fence.wide 5 trivial rfl mb W)
def EZ(w:World)(b B:Nat)(M:Int→Option Value)(h:dV B w b M)(hB:B≤1000) :
  Calls prog 155 #[.func (.func 197) #[] #[.pointer (some ⟨w,0,none⟩)]] (w.alloc (.cells #[.map (some b)] 228)) (mW (w.alloc (.cells #[.map (some b)] 228)) B M):=by
 have h9:=h.below (cQ w (.cells #[.map (some b)] 228));obtain⟨D0,a,hd⟩:=h9;have hs:=oK a hd;have g:Maps.size D0≤maxLen:=by unfold maxLen;omega
 have c:Maps.size D0*8≤140737488355328:=by omega
 have d:SeqGives Fence.wide 2 prog 197 #[pt w] encZ (fun ss=>ss.Perm (intKeys D0)) (Maps.size D0) (w.alloc (.cells #[.map (some b)] 228)) :=
  AnyZI.keys_gives (ρ:=Tryz.zW) { Tryz.Pq with } Fence.wide _ trivial rfl (by omega) w b B D0 _ (by simp) (by simp) a
 have cS:=AnyZI.sorted_in Tryz.DW Fence.wide 5 trivial trivial trivial trivial rfl (by omega) (vW _) (enters_of func184 (by kernel_rfl) rfl) 197 #[pt w] trivial (enters_of func197 (by kernel_rfl) rfl) _ _ g c _ d;change CallsIn _ _ prog 155 _ _ _ at cS;refine((iY (n:=5)).1 cS).mono ?_;rintro e w' ⟨v,ss,he,hp,f,i,hb⟩;exact yv a hd he hp f hb
def Fa(w:World)(b B:Nat)(M:Int→Option Value)(h:dV B w b M)(hB:B≤1000) :
  Calls prog 155 #[.func (.func 194) #[] #[.pointer (some ⟨w,0,none⟩)]] (w.alloc (.cells #[.map (some b)] 160)) (mW (w.alloc (.cells #[.map (some b)] 160)) B M):=by
 have h9:=h.below (cQ w (.cells #[.map (some b)] 160));obtain⟨D0,a,hd⟩:=h9;have hs:=oK a hd;have g:Maps.size D0≤maxLen:=by unfold maxLen;omega
 have c:Maps.size D0*8≤140737488355328:=by omega
 have d:SeqGives Fence.wide 2 prog 194 #[pt w] encZ (fun ss=>ss.Perm (intKeys D0)) (Maps.size D0) (w.alloc (.cells #[.map (some b)] 160)) :=
  AnyZI.keys_gives (ρ:=Tryz.zX) { Tryz.Pr with } Fence.wide _ trivial rfl (by omega) w b B D0 _ (by simp) (by simp) a
 have cS:=AnyZI.sorted_in Tryz.DW Fence.wide 5 trivial trivial trivial trivial rfl (by omega) (vW _) (enters_of func184 (by kernel_rfl) rfl) 194 #[pt w] trivial (enters_of func194 (by kernel_rfl) rfl) _ _ g c _ d;change CallsIn _ _ prog 155 _ _ _ at cS;refine((iY (n:=5)).1 cS).mono ?_;rintro e w' ⟨v,ss,he,hp,f,i,hb⟩;exact yv a hd he hp f hb
end Go.Proofs.YtehimhbgakpenaaGreat.Fd
namespace Go.Proofs.YtehimhbgakpenaaGreat.Fd
open Go.RowKit Go.Maps Go.Sort Go.Proofs.Tryz
def Ph(f:Nat→Nat):sF (fun _=>none) f=fun _=>none:=by
 funext z;unfold sF;split<;>rfl
def PQ(w:World)(iv:Int)(h1:1≤iv)(h2:iv≤65536):Calls prog 36 #[iv] w fun e w'=>e= .returned (.tuple #[.pointer (some ⟨w.heap.size+1,0,none⟩),.int .i64 0])∧fR w' (w.heap.size+1) w iv (fun _=>none) (fun _=>0)∧cI w w':=by
 have a:fR ((w.alloc (.map #[] 0)).alloc (.cells #[iv,.map (some w.heap.size)] 162)) (w.heap.size+1) w iv (fun _=>none) (fun _=>0):=by
  have hb:=cQ (w.alloc (.map #[] 0)) (.cells #[iv,.map (some w.heap.size)] 162);have b:=fq.iE (w.alloc (.map #[] 0)) #[iv,.map (some w.heap.size)] 162 (w.heap.size+1) _ (by simp) rfl;exact⟨b.c 0 rfl,b.c 1 rfl,by rw[Ph];exact(dV.made 256 w).below hb,fun i _ D h=>(nomatch h),fun i _ h=>by simp at h,fun i j _ _ h=>by simp at h⟩
 have d:cI w ((w.alloc (.map #[] 0)).alloc (.cells #[iv,.map (some w.heap.size)] 162)):=(cQ w _).trans ((cQ _ _).mono (by simp));have f:=@run_makeMap prog;have e1:decide (iv<1)=false:=by simp;omega
 have e2:decide (65536<iv)=false:=by simp;omega
 replace a:=φ a;go_in;go_wp2;go_ret2;exact⟨rfl,a,d⟩
def iA(N:Fn):List Int:=((List.range 256).map fun(i:Nat)=>(i:Int)).filter fun i=>(N i.toNat).isSome
def PA(N:Fn)(f:Nat→Nat):iz 256 (sF N f)=iA N:=by
 unfold iz iA;refine gN fun i hi=>?_
 obtain⟨k,hk,rfl⟩:=dL.1 hi;rw[rK (ec.1 hk),Option.isSome_map,cU]
def jQ{N:Fn}(i:Int):i∈iA N↔(0≤i∧i<256)∧(N i.toNat).isSome=true:=by
 unfold iA;rw[dW,dL];constructor
 ·rintro⟨⟨k,hk,rfl⟩,h⟩;exact⟨⟨by omega,by have:=ec.1 hk;omega⟩,h⟩
 ·rintro⟨⟨h0,h1⟩,h⟩;exact⟨⟨i.toNat,ec.2 (by omega),dR h0⟩,h⟩
def wK(N:Fn):(iA N).length≤256:=by
 unfold iA;refine cZ cz ?_;simp
def nQ(w:World)(l:List Int)(e:Ending)(w':World):Prop :=
 ∃A c,e= .returned (.slice A l.length c)∧w'.ownsRow w 3 1 (.slice A l.length c) l.length (l.map encZ)∧cI w w'
def vx(w:World)(g b:Nat)(iv:Int)(N:Fn)(f:Nat→Nat)(h:fR w g b iv N f):Calls prog 147 #[.pointer (some ⟨g,0,none⟩)] w (nQ w (iA N)):=by
 have c1:=h.c1;have SO:=Fa w b 256 _ h.nb (by omega);rw[show mW (w.alloc (.cells #[.map (some b)] 160)) 256 (sF N f)=nQ (w.alloc (.cells #[.map (some b)] 160)) (iA N)by unfold mW nQ;rw[PA]]at SO;have a:Hid (∀e w',nQ (w.alloc (.cells #[.map (some b)] 160)) (iA N) e w'→nQ w (iA N) e w'):=fun e w' hp=>by
  obtain⟨A,c,he,ho,hb⟩:=hp;exact⟨A,c,he,dx ho (by simp),(cQ w _).trans (hb.mono (by simp))⟩
 replace SO:=φ SO;clear h;go_in;go_wp2_with fail;refine (LL _ _).mono ?_;rintro e w1 ⟨rfl,rfl⟩;go_wp2_with fail;refine SO.out.mono ?_;rintro e w2 hp;have i:=a.out _ _ hp;obtain⟨A,c,rfl,d⟩:=i;go_wp2;go_ret;exact⟨A,c,rfl,d⟩
end Go.Proofs.YtehimhbgakpenaaGreat.Fd
