/- Lemmas. -/
import Derived.StillTailTactics
import Derived.Test.YtehimhbgakpenaaGreatL
set_option linter.all false
set_option maxRecDepth 100000
set_option maxHeartbeats 16000000
namespace Go.Proofs.YtehimhbgakpenaaGreat
open Go.RowKit Go.Maps Go.Sort Go.Shelf Go.Proofs.Tryz
def vW(m:Nat):AnyZI.SortsIn prog Tryz.sY Fence.wide m :=
 ⟨fun Ef off cap ss W hH a b=>iY.2 (AnyM.slices_Sort_int Tryz.JH Ef off cap ss W hH a b),
  fun p cap W=>iY.2 (AnyM.slices_Sort_int_none Tryz.JH p cap W)⟩
def FP{H:Type}(g b nn:Nat)(D0:DataW H)(R:Value→Option (DataW H× List MemPlace))(w:World)(hc:w.cell? ⟨g,0,none⟩=some (.map (some b)))(a:w.ownsMap prog 3 R b nn D0)(i:Maps.size D0≤maxLen)(c:Maps.size D0*8≤140737488355328) :
  Calls prog 104 #[.pointer (some ⟨g,0,none⟩)] w fun e w'=>∃(v:Value) (ss:List Int),e= .returned v∧ss.Perm (intKeys D0) ∧
   w'.ownsRow w 3 1 v ss.length ((ss.mergeSort (fun x y=>decide (x≤y))).map encZ)∧(v= .slice none 0 0↔ss= [])∧cI w w':=by
 refine(iY (n:=6)).1 ?_;have j:=a.lt;have d:SeqGives Fence.wide 2 prog 185 #[pt w] encZ (fun ss=>ss.Perm (intKeys D0)) (Maps.size D0) (w.alloc (.cells #[.map (some b)] 157)) :=
  AnyZI.keys_gives (ρ:=Tryz.CB) { Tryz.UB with } Fence.wide _ trivial rfl (by omega) w b nn D0 _ (by simp) (by simp) (by
   obtain⟨es,clock,hb,Ft,hs,hD⟩:=a;exact ⟨es,clock,(ky _ _ b j).trans hb,Ft,hs,hD⟩)
 have cK:∀mb W,CallsIn Fence.wide 5 prog 156 #[.map mb] W fun e w'=>e= .returned (.func (.func 185) #[] #[pt W])∧w'=W.alloc (.cells #[.map mb] 157):=fun mb W=>AnyZI.keys_in Tryz.UB Fence.wide 5 trivial rfl mb W
 have cS:=AnyZI.sorted_in Tryz.DW Fence.wide 5 trivial trivial trivial trivial rfl (by omega) (vW _) (enters_of func184 (by kernel_rfl) rfl) 185 #[pt w] trivial (enters_of func185 (by kernel_rfl) rfl) _ _ i c _ d;change CallsIn _ _ prog 155 _ _ _ at cS;have l:Fence.wide.fn 156:=trivial;have k:Fence.wide.fn 155:=trivial;clear a d;refine callsIn_of_wp func104 rfl trivial ?_ rfl;simp only[ntmps104,fT,List.length_cons,List.length_nil,Nat.reduceAdd,Nat.reduceSub,Cf,Array.replicate_zero,IZ,Ez,List.nil_append,List.cons_append]
 gi_wp2_with (first
  |(gi_at_call 156;refine(cK _ _).mono ?_;rintro e w' ⟨rfl,rfl⟩)
  | (gi_at_call 155; refine cS.mono ?_; rintro e w' ⟨v,ss,rfl,hS,f,h,hb⟩))
 go_ret;exact⟨v,ss,rfl,hS,ownsRow_base_a f (by simp),h,((sa _ w).alloc cj _).trans (hb.mono (by simp))⟩
end Go.Proofs.YtehimhbgakpenaaGreat
namespace Go.Proofs.YtehimhbgakpenaaGreat
open Go.RowKit Go.Maps Go.Sort Go.Proofs.Tryz
def BO(v:Value):Option (DataW Value× List MemPlace):=some (.held v,[])
def wO:Keyed prog 3:=int_keyed underlying3
def lW{i:Int}(h0:0≤i)(h1:i≤1000):(Lit.int .i64 i).wf=true:=WalkArith.wf_i64 (by omega)
def rQ{i:Int}(h:(Lit.int .i64 i).wf=true):keyOf prog 3 (.int .i64 i)=some (.int .i64 i):=keyOf_int_mk underlying3 h
abbrev JP:Value:=.agg #[.int .i64 0,.int .i64 0,.int .i64 0,false,.slice none 0 0,.slice none 0 0,.int .i64 0]
structure iO (D:DataW Value) (M:Int→Option Value):Prop where
 at_:∀i z,D.atKey (.int .i64 i) (.held z)= .held ((M i).getD z)
 has_:∀i,Maps.has D (.int .i64 i)=(M i).isSome
 small:∀i,(M i).isSome=true→0≤i∧i≤63
def xR(i:Int):WideAt.IsKeyLit (.int .i64 i):=by first|trivial|exact⟨⟩|simp[WideAt.IsKeyLit]
def np{i j:Int}(h:j≠i):(Lit.int .i64 j)≠ .int .i64 i:=fun e=>by injection e with _ e;exact h e
def iO.start:iO (.map []) (fun _=>none):=⟨fun i z=>rfl,fun i=>rfl,fun i h=>by simp at h⟩
def iO.put{D:DataW Value}{M:Int→Option Value}(h:iO D M)(hD:Maps.IsMap D){i:Int}(h0:0≤i)(h1:i≤63)(v:Value):iO (D.put (.int .i64 i) (.held v)) (fun j=>if j=i then some v else M j):=by
 refine⟨fun j z=>?_,fun j=>?_,fun j hj=>?_⟩
 ·by_cases e:j=i
  ·subst e;rw[atKey_put_same hD (xR j)];simp
  ·rw[atKey_put_other (np e),h.at_,cN e]
 ·by_cases e:j=i
  ·subst e;rw[has_put_same hD (xR j)];simp
  ·rw[has_put_other (np e),h.has_];simp only[cN e]
 ·by_cases e:j=i
  ·subst e;exact⟨h0,h1⟩
  ·simp only[cN e]at hj;exact h.small j hj
def iO.del{D:DataW Value}{M:Int→Option Value}(h:iO D M)(i:Int):iO (D.del (.int .i64 i)) (fun j=>if j=i then none else M j):=by
 refine⟨fun j z=>?_,fun j=>?_,fun j hj=>?_⟩
 ·by_cases e:j=i
  ·subst e;rw[atKey_del_same];simp
  ·rw[atKey_del_other (np e),h.at_,cN e]
 ·by_cases e:j=i
  ·subst e;rw[has_del_same];simp
  ·rw[has_del_other (np e),h.has_];simp only[cN e]
 ·by_cases e:j=i
  ·subst e;simp at hj
  ·simp only[cN e]at hj;exact h.small j hj
def iz(M:Int→Option Value):List Int:=((List.range 64).map fun(i:Nat)=>(i:Int)).filter fun i=>(M i).isSome
def mw(M:Int→Option Value):(iz M).Pairwise (· < ·):=by
 unfold iz;refine mG _ ?_;rw[gM];exact ju.imp fun h=>by omega
def xP{M:Int→Option Value}(hs:∀i,(M i).isSome=true→0≤i∧i≤63)(i:Int):i∈iz M↔(M i).isSome=true:=by
 unfold iz;rw[dW,dL];constructor
 ·rintro⟨_,hk⟩;exact hk
 ·intro h;obtain⟨h0,h1⟩:=hs i h;exact⟨⟨i.toNat,ec.2 (by omega),dR h0⟩,h⟩
def xQ(M:Int→Option Value):(iz M).length≤64:=by
 unfold iz;refine cZ cz ?_;simp
section
variable {w w':World} {b nn:Nat} {D:DataW Value} {M:Int → Option Value}
def keys_perm(a:w.ownsMap prog 3 BO b nn D)(h:iO D M):(iz M).Perm (intKeys D):=by
 obtain⟨es,hD,d,_⟩:=a.entries wO;obtain⟨g,c,f⟩:=a.keysOf;obtain rfl:es=g:=by rw[hD]at c;simpa using c
 subst hD;refine perm_intKeys d (fun p hp=>by obtain⟨v,hv⟩:=f p hp;obtain⟨x,_,hx,_⟩:=Maps.keyOf_i64 underlying3 hv;exact⟨x,hx⟩) ?_ (fun x=>by rw[xP h.small,h.has_]);exact(mw M).imp fun h e=>by omega
def qy(a:w.ownsMap prog 3 BO b nn D)(h:iO D M){ss:List Int}(hp:ss.Perm (intKeys D)):ss.mergeSort (fun x y=>decide (x≤y))=iz M:=by
 have h1:ss.mergeSort leI=(iz M).mergeSort leI:=mergeSort_of_perm_i (hp.trans (keys_perm a h).symm);have h2:(iz M).mergeSort leI=iz M:=Uo ((mw M).imp fun h=>by simp only[leI,fa];omega);exact h1.trans h2
def oK(a:w.ownsMap prog 3 BO b nn D)(h:iO D M):Maps.size D≤64:=by
 have hp:=(keys_perm a h).length_eq;obtain⟨es,rfl,_⟩:=a.keysOf;rw[show(intKeys (DataW.map es)).length=es.length by simp[intKeys]]at hp;rw[MM,←hp];exact xQ M
def dV(w:World)(b:Nat)(M:Int→Option Value):Prop:=∃D,w.ownsMap prog 3 BO b 64 D∧iO D M
def dV.of(hown:w.ownsMap prog 3 BO b nn D)(h:iO D M):dV w b M:=by
 refine⟨D,?_,h⟩
 have hs:=oK hown h;obtain⟨es,clock,hb,F,_,rfl⟩:=hown;exact⟨es,clock,hb,F,by rwa[MM,length_read]at hs,rfl⟩
def dV.lt(h:dV w b M):b<w:=by obtain⟨D,h,_⟩:=h;exact h.lt
def dV.kept{row:Option Nat}(h:dV w b M)(hg:w.grownBy w' row)(hne:row≠some b):dV w' b M:=by
 obtain⟨D,h,hd⟩:=h;exact⟨D,h.kept hg (fun e=>hne e.symm),hd⟩
def dV.below(h:dV w b M)(hb:cI w w'):dV w' b M:=h.kept (row:=none) ⟨hb.os,hb.tape,hb.output,hb.size,fun k hk _=>hb.block k hk⟩ (by simp)
def dV.made(w:World):dV (w.alloc (.map #[] 0)) w (fun _=>none):=.of (World.ownsMap_made w _ _ _) .start
def dV.tT(h:dV w b M)(off:Nat)(p:Option Nat):w.cell? ⟨b,off,p⟩=none:=by
 obtain⟨D,⟨es,clock,hb,_⟩,_⟩:=h;simp[World.cell?,hb]
def dV.small(h:dV w b M){i:Int}(hi:(M i).isSome=true):0≤i∧i≤63:=by obtain⟨D,_,hd⟩:=h;exact hd.small i hi
end
def PN(w:World):(zeroValue 206).run prog w= .ok JP w:=zeroValue206 w
structure Hd where
 x:La
 l:Int
abbrev Db:=Nat→Option Hd
abbrev vM(x:La)(A:cG)(c:Nat)(B:cG)(d:Nat)(l:Int):Value:=.agg #[x.o,x.s,x.a,x.ov,.slice A x.adj.length c,.slice B x.pre.length d,l]
def QE(w:World)(A:cG)(n:Nat)(e:TypeId):Prop:=0<n→ ∀ad,A=some ad→ ∃cs fr,w.heap[ad.block]?=some (.cells cs e fr)
def QE.uB{w w':World}{A:cG}{n:Nat}{e:TypeId}(h:QE w A n e)(hk:∀ad,A=some ad→(w.heap[ad.block]?).isSome=true→(∃cs fr,w.heap[ad.block]?=some (.cells cs e fr))→w'.heap[ad.block]?=w.heap[ad.block]?):QE w' A n e:=fun hn ad ha=>by
 obtain⟨cs,fr,e⟩:=h hn ad ha;exact⟨cs,fr,(hk ad ha (by rw[e];rfl) ⟨cs,fr,e⟩).trans e⟩
def JO{w:World}{k:Nat}{o:Obj}(h:w.heap[k]?=some o):k<w:=(df.1 h).1
def QE.below{w w':World}{A:cG}{n:Nat}{e:TypeId}(h:QE w A n e)(hb:cI w w'):QE w' A n e :=
 h.uB fun ad _ _ ⟨cs,fr,e⟩=>hb.block _ (JO e)
def Bf(w:World)(x:La)(A:cG)(c:Nat)(B:cG)(d:Nat):Prop:=eU w (ig x.o x.s x.a x.ov A x.adj.length c B x.pre.length d) x∧QE w A x.adj.length 169∧QE w B x.pre.length 181
def Bf.below{w w':World}{x:La}{A:cG}{c:Nat}{B:cG}{d:Nat}(h:Bf w x A c B d)(hb:cI w w'):Bf w' x A c B d:=⟨eU.below h.1 hb,h.2.1.below hb,h.2.2.below hb⟩
def Bf.mK{w:World}{x:La}{A:cG}{c:Nat}{B:cG}{d:Nat}(h:Bf w x A c B d)(o' s' a':Int)(ov':Bool):Bf w ⟨o',s',a',ov',x.adj,x.pre⟩ A c B d:=⟨eU.mK h.1 o' s' a' ov',h.2.1,h.2.2⟩
def OD{w:World}{base:Nat}{e:TypeId}{size:Nat}{A:cG}{n c:Nat}{xs:cH}(h:w.ownsRow base e size (.slice A n c) n xs):QE w A n e:=fun hn ad ha=>by
 rcases h.2 with ⟨h2,h3⟩|⟨g,cap,cur,h2,a,hh,r⟩
 ·omega
 ·injection h2 with h2 _ _
  rw[ha]at h2;injection h2 with h2
  subst h2;exact⟨_,_,hh⟩
def fh.ty{w:World}{base:Nat}{v:Value}{x:La}(h:fh w base v x):∃A c B d,v=ig x.o x.s x.a x.ov A x.adj.length c B x.pre.length d∧Hid (∀W',cI w W'→Bf W' x A c B d):=by
 have ha:=h.at;obtain⟨A,c,B,d,rfl,o1,o2,hu⟩:=h;exact⟨A,c,B,d,rfl,fun W' hb=>⟨ha.below hb,(OD o1).below hb,(OD o2).below hb⟩⟩
def iu(w:World):Option Value→Option Hd→Prop
 |none,none=>True
 |some v,some h=>∃A c B d,v=vM h.x A c B d h.l∧Bf w h.x A c B d
 |_,_=>False
def iu.below{w w':World}{v:Option Value}{h:Option Hd}(he:iu w v h)(hb:Below w.heap.size w w'):iu w' v h:=by
 match v,h,he with
 |none,none,_=>trivial
 |some v,some h,⟨A,c,B,d,e,hl⟩=>exact⟨A,c,B,d,e,hl.below hb⟩
def Rd.mx{w w':World}{A:cG}{xs:cH}{b:Nat}{M:Int→Option Value}(h:Rd w A xs)(hm:dV w b M)(hg:w.grownBy w' (some b)):Rd w' A xs:=by
 intro hn;obtain⟨ad,e,hb⟩:=h.block hn;obtain⟨d,e',hc⟩:=h hn;rw[e]at e';injection e' with e'
 subst e';refine⟨ad,e,fun j u hu=>?_⟩
 have a:=hc j u hu;have c:(ad.add j).block≠b:=fun e2=>by
  have:=hm.tT (ad.add j).off (ad.add j).spot;rw[←e2,show(⟨(ad.add j).block,(ad.add j).off,(ad.add j).spot⟩:Addr)=ad.add j from rfl,a]at this;cases this
 rw[cY (hg.block _ (dm _ _ a) (fun e2=>c (by injection e2)))];exact a
def eU.mx{w w':World}{v:Value}{x:La}{b:Nat}{M:Int→Option Value}(h:eU w v x)(hm:dV w b M)(hg:w.grownBy w' (some b)):eU w' v x:=by
 obtain⟨A,c,B,d,rfl,h1,h2,h3⟩:=h;exact⟨A,c,B,d,rfl,h1.mx hm hg,h2.mx hm hg,h3⟩
def Bf.mx{w w':World}{x:La}{A:cG}{c:Nat}{B:cG}{d:Nat}{b:Nat}{M:Int→Option Value}(h:Bf w x A c B d)(hm:dV w b M)(hg:w.grownBy w' (some b)):Bf w' x A c B d:=by
 have key:∀ {A:cG} {n:Nat} {e:TypeId},QE w A n e → QE w' A n e:=fun {A n e} h=>h.uB fun ad _ _ ⟨cs,fr,e2⟩=>hg.block _ (JO e2) (fun e3=>by
  injection e3 with e3
  obtain⟨D,⟨es,clock,hb,_⟩,_⟩:=hm;rw[e3,hb]at e2;cases e2)
 exact⟨eU.mx h.1 hm hg,key h.2.1,key h.2.2⟩
def iu.mx{w w':World}{v:Option Value}{h:Option Hd}{b:Nat}{M:Int→Option Value}(he:iu w v h)(hm:dV w b M)(hg:w.grownBy w' (some b)):iu w' v h:=by
 match v,h,he with
 |none,none,_=>trivial
 |some v,some h,⟨A,c,B,d,e,hl⟩=>exact⟨A,c,B,d,e,hl.mx hm hg⟩
structure iN (w:World) (g b:Nat) (N:Db):Prop where
 ex:∃M,dV w b M∧ ∀i:Nat,i<64→iu w (M (i:Int)) (N i)
 cell:w.cell? ⟨g,0,none⟩=some (.map (some b))
def iN.below{w w':World}{g b:Nat}{N:Db}(h:iN w g b N)(hb:cI w w'):iN w' g b N:=by
 obtain⟨⟨M,hm,he⟩,hc⟩:=h;exact⟨⟨M,hm.below hb,fun i hi=>(he i hi).below hb⟩,cW hb hc⟩
def iN.lt{w:World}{g b:Nat}{N:Db}(h:iN w g b N):g<w∧b<w:=by
 obtain⟨⟨M,hm,_⟩,hc⟩:=h;exact⟨dm _ _ hc,hm.lt⟩
def iN.ne{w:World}{g b:Nat}{N:Db}(h:iN w g b N):g≠b:=fun e=>by
 obtain⟨⟨M,hm,_⟩,hc⟩:=h;rw[e,hm.tT]at hc;cases hc
def iN.put{w w':World}{g b:Nat}{N:Db}{M:Int→Option Value}(hm:dV w b M)(he:∀i:Nat,i<64→iu w (M (i:Int)) (N i))(hc:w.cell? ⟨g,0,none⟩=some (.map (some b)))(d:g≠b)(k:Nat)(hk:k<64)(v:Option Value)(h:Option Hd)(hv:iu w v h)
  (c:dV w' b (fun j=>if j=(k:Int)then v else M j)) (hg:w.grownBy w' (some b)):iN w' g b (fun i=>if i=k then h else N i):=by
 refine⟨⟨_,c,fun i hi=>?_⟩,?_⟩
 ·by_cases e:i=k
  ·subst e;simp only[gy];exact hv.mx hm hg
  ·have e':¬(i:Int)=(k:Int):=by omega
   simp only[cN e,cN e'];exact(he i hi).mx hm hg
 ·rw[cY (a:=⟨g,0,none⟩) (hg.block g (dm _ _ hc) (fun e=>d (by injection e)))];exact hc
def Qd(w:World):Calls prog 35 #[] w fun e w'=>e= .returned (.pointer (some ⟨w.heap.size+1,0,none⟩))∧iN w' (w.heap.size+1) w (fun _=>none)∧cI w w':=by
 have a:iN ((w.alloc (.map #[] 0)).alloc (.cells #[.map (some w.heap.size)] 159)) (w.heap.size+1) w (fun _=>none):=by
  have hb:=cQ (w.alloc (.map #[] 0)) (.cells #[.map (some w.heap.size)] 159);refine⟨⟨_,(dV.made w).below hb,fun i hi=>trivial⟩,?_⟩
  simp
 have b:cI w ((w.alloc (.map #[] 0)).alloc (.cells #[.map (some w.heap.size)] 159)):=(cQ w _).trans ((cQ _ _).mono (by simp));have c:=@run_makeMap prog;replace a:=φ a;go_in;go_wp2;go_ret;exact⟨rfl,a,b⟩
def dV.lE{w:World}{b:Nat}{M:Int→Option Value}(h:dV w b M){i:Int}(hi:(Lit.int .i64 i).wf=true) :
  (Instr.lookup 157 (.map (some b)) (.int .i64 i) true).run prog w= .ok (.tuple #[(M i).getD JP,.bool (M i).isSome]) w:=by
 obtain⟨D,c,hd⟩:=h;obtain⟨v,ps,a,hv⟩:=c.look_ok wO underlying157 (PN w) (zd:=.held JP) (zp:=[]) rfl (rQ hi);obtain rfl:v=(M i).getD JP:=by
  rw[hd.at_]at hv;simp only[BO,dB,iP,zg]at hv;exact hv.1
 rw[hd.has_]at a;exact a
def dV.mM{w:World}{b:Nat}{M:Int→Option Value}(h:dV w b M){i:Int}(hi:(Lit.int .i64 i).wf=true) :
  (Instr.lookup 157 (.map (some b)) (.int .i64 i) false).run prog w= .ok ((M i).getD JP) w:=by
 obtain⟨D,c,hd⟩:=h;obtain⟨v,ps,a,hv⟩:=c.lookup wO underlying157 (PN w) (zd:=.held JP) (zp:=[]) rfl (rQ hi);obtain rfl:v=(M i).getD JP:=by
  rw[hd.at_]at hv;simp only[BO,dB,iP,zg]at hv;exact hv.1
 exact a
def dV.drew{w:World}{b:Nat}{M:Int→Option Value}(h:dV w b M):dV w.drew b M:=h
def JV(bm:Nat)(w:World):(binOp .eql 157 (.map (some bm)) (.map none)).run prog w= .ok (.bool false) w:=by kernel_rfl
def ij{w w':World}(hb:cI w w')(row:Option Nat):w.grownBy w' row:=⟨hb.os,hb.tape,hb.output,hb.size,fun k hk _=>hb.block k hk⟩
def dV.nj{w:World}{b:Nat}{M:Int→Option Value}(h:dV w b M){i:Int}(h0:0≤i)(h1:i≤63)(u:Value) :
  ∃w',(Instr.mapUpdate 157 (.map (some b)) (.int .i64 i) u).run prog w= .ok () w'∧dV w' b (fun j=>if j=i then some u else M j)∧w.grownBy w' (some b):=by
 obtain⟨D,a,hd⟩:=h;obtain⟨w',c,r1,r2⟩:=a.update wO underlying157 (by unfold maxLen;omega) (rQ (lW h0 (by omega))) (val:=u) (d:=.held u) (ps:=[]) rfl;exact⟨w',c,.of r1 (hd.put a.isMap h0 h1 u),r2⟩
noncomputable def instR(N:Db)(a:La):Int:=if vB a=true then match N a.o.toNat with|some h=>if kO a h.x=0 then 2 else if kO a h.x= -1 then 3 else 1|none=>1 else 0
noncomputable def instE(a:La):Int:=if vB a=true then 0 else 1
noncomputable def instN(N:Db)(a:La):Db:=if vB a=true∧instR N a=1 then fun i=>if i=a.o.toNat then some ⟨a,60⟩else N i else N
def GU(w:World)(g b:Nat)(N:Db)(a:La)(e:Ending)(w':World):Prop :=
 e= .returned (.tuple #[(instR N a),(instE a)])∧iN w' g b (instN N a)∧w.grownBy w' (some b)
def wV(w:World)(g b:Nat)(N:Db)(v:Value)(a:La)(h:iN w g b N)(hv:eU w v a):Calls prog 120 #[.pointer (some ⟨g,0,none⟩),v] w (GU w g b N a):=by
 obtain⟨A,c,B,d,rfl,hl⟩:=hv.opened;clear hv;have S:=(St.start w).nw #[.int .i64 a.o,.int .i64 a.s,.int .i64 a.a,.bool a.ov,.slice A a.adj.length c,.slice B a.pre.length d] 41 w.heap.size;have V:=fun W hb=>me W _ a (hl.below hb)
 have j:Hid (∀r er N' e w',instR N a=r→instE a=er→instN N a=N'→e=Ending.returned (.tuple #[.int .i64 r,.int .i64 er])→iN w' g b N'→w.grownBy w' (some b)→GU w g b N a e w'):=fun r er N' e w' h1 h2 h3 h4 h5 h6=>by subst h1 h2 h3;exact⟨h4,h5,h6⟩
 rcases hvb:vB a with _|_
 ·have e1:instR N a=0:=by unfold instR;rw[hvb,cN (by simp)]
  have e2:instE a=1:=by unfold instE;rw[hvb,cN (by simp)]
  have e3:instN N a=N:=by unfold instN;rw[hvb,cN (by simp)]
  rw[hvb]at V;replace V:=φ V;have t:Hid (∀w',cI w w'→iN w' g b N∧w.grownBy w' (some b)):=fun w' hb=>⟨h.below hb,⟨hb.os,hb.tape,hb.output,hb.size,fun k hk _=>hb.block k hk⟩⟩
  replace e1:=φ e1;replace e2:=φ e2;replace e3:=φ e3;clear h hl hvb;obtain⟨a0,a1,a2,a3,a4,a5⟩:=(S.box 0 rfl).b6;go_in;go_wp2_with fail;(with_reducible refine(V.out _ S.b).mono ?_);rintro e w1 ⟨rfl,hb⟩;clear a0 a1 a2 a3 a4 a5;replace S:=S.call hb;obtain⟨f1,f2⟩:=t.out _ S.b;go_wp2;go_ret2;exact j.out _ _ _ _ _ e1.out e2.out e3.out rfl f1 f2
 have I:=gH.1 hvb;have ho:=I.1;have ab:=I.2.2.2.1;have aa:=I.2.2.2.2.1;obtain⟨k,hk⟩:=de ho.1;have e2:instE a=0:=by unfold instE;rw[hvb,cR rfl]
 rw[hvb]at V;replace V:=φ V;obtain⟨⟨M,hm,he⟩,hc⟩:=id h;have f:=he k (by omega);have R:=h.ne;have C:=fun W hb=>py 105 (.inl rfl) W _ a (hl.below hb) (by omega) (by omega)
 replace C:=φ C;replace hk:Hid (a.o=(k:Int)):=hk;replace e2:=φ e2;have Q:(Lit.int .i64 a.o).wf=true:=lW ho.1 (by omega);have t:Hid (∀w',cI w w'→iN w' g b N∧w.grownBy w' (some b)):=fun w' hb=>⟨h.below hb,⟨hb.os,hb.tape,hb.output,hb.size,fun k hk _=>hb.block k hk⟩⟩
 obtain⟨a0,a1,a2,a3,a4,a5⟩:=(S.box 0 rfl).b6;go_in;go_wp2_with fail;(with_reducible refine(V.out _ S.b).mono ?_);rintro e w1 ⟨rfl,hb⟩;clear a0 a1 a2 a3 a4 a5;replace S:=S.call hb;clear V hb;have J:=hm.below S.b;have O:=cW S.b hc;generalize n:(M a.o).getD JP=u at *;generalize m:(M a.o).isSome=ok at *;have b2:=cQ w1 (.cells #[.int .i64 0,.int .i64 0,.int .i64 0,.bool false,.slice none 0 0,.slice none 0 0,.int .i64 0] 206);have L1:=(J.drew).lE Q;have L2:=(J.below b2).drew.lE Q;have T:=S.drew;have T2:=(S.alloc (.cells #[.int .i64 0,.int .i64 0,.int .i64 0,.bool false,.slice none 0 0,.slice none 0 0,.int .i64 0] 206)).drew;have c1:w1.drew.cell? ⟨g,0,none⟩=some (.map (some b)):=O;have c2:(w1.alloc (.cells #[.int .i64 0,.int .i64 0,.int .i64 0,.bool false,.slice none 0 0,.slice none 0 0,.int .i64 0] 206)).drew.cell? ⟨g,0,none⟩=some (.map (some b)):=(by have:=cW b2 O;exact this)
 rw[n,m]at L1 L2;have hu:∃u0 u1 u2 u3 A9 n9 c9 B9 m9 d9 u6,u= .agg #[.int .i64 u0,.int .i64 u1,.int .i64 u2,.bool u3,.slice A9 n9 c9,.slice B9 m9 d9,.int .i64 u6]:=by
  rw[←n];cases hM:M a.o with
  |none=>exact⟨_,_,_,_,_,_,_,_,_,_,_,rfl⟩
  |some vv=>
    rw[←hk.out,hM]at f;cases hN:N k with
    |none=>rw[hN]at f;exact f.elim
    |some hh=>
      rw[hN]at f;obtain⟨A9,c9,B9,d9,rfl,_⟩:=f;exact⟨_,_,_,_,_,_,_,_,_,_,_,rfl⟩
 obtain⟨u0,u1,u2,u3,A9,n9,c9,B9,m9,d9,u6,rfl⟩:=hu;replace n:=φ n;replace m:=φ m;obtain⟨a0,a1,a2,a3,a4,a5⟩:=(T.box 0 rfl).b6;obtain⟨r0,r1,r2,r3,r4,r5⟩:=(T2.box 0 rfl).b6;go_upto_region 5 with fail;go_cut [6,7] (fun v6 v7 wx=>v6= .pointer (some ⟨w1.heap.size,0,none⟩)∧v7= .bool ok∧wx=(w1.alloc (.cells #[.int .i64 u0,.int .i64 u1,.int .i64 u2,.bool u3,.slice A9 n9 c9,.slice B9 m9 d9,.int .i64 u6] 206)).drew)
 case first=>
  go_region_law (fail)
  all_goals
   go_wp2;go_meet;exact⟨rfl,rfl,rfl⟩
 case rest=>
  obtain⟨rfl,rfl,rfl⟩:=hcut;clear a0 a1 a2 a3 a4 a5;clear r0 r1 r2 r3 r4 r5;clear T T2 L1 L2 c1 c2 b2;have b3:=cQ w1 (.cells #[.int .i64 u0,.int .i64 u1,.int .i64 u2,.bool u3,.slice A9 n9 c9,.slice B9 m9 d9,.int .i64 u6] 206);have S2:=(S.nw #[.int .i64 u0,.int .i64 u1,.int .i64 u2,.bool u3,.slice A9 n9 c9,.slice B9 m9 d9,.int .i64 u6] 206 w1.heap.size).drew;have ac:=(J.below b3).drew;have c2:(w1.alloc (.cells #[.int .i64 u0,.int .i64 u1,.int .i64 u2,.bool u3,.slice A9 n9 c9,.slice B9 m9 d9,.int .i64 u6] 206)).drew.cell? ⟨g,0,none⟩=some (.map (some b)):=(by have:=cW b3 O;exact this)
  clear S b3;generalize (w1.alloc _).drew=w2 at *;generalize w1.heap.size=g2 at *;have L0:=m;cases ok with
  |false=>
    have y:N k=none:=by
     have Y:M a.o=none:=by have:=m.out;simpa using this
     rw[←hk.out,Y]at f;cases hN:N k with
     |none=>rfl
     |some hh=>rw[hN]at f;exact f.elim
    have e1:instR N a=1:=by unfold instR;rw[hvb,cR rfl,hk.out,cU,y]
    have S3:=S2;have c0:=c2;have e3:instN N a=fun i=>if i=a.o.toNat then some ⟨a,60⟩else N i:=by unfold instN;rw[cR ⟨hvb,e1⟩]
    replace e1:=φ e1;replace e3:=φ e3;clear n m L0 f;have Z:=JV b;go_upto_region 14 with fail;have T:=S3.drew;have c1:=c0;replace c1:World.cell? (World.drew _) ⟨g,0,none⟩=some (.map (some b)):=c1;obtain⟨a0,a1,a2,a3,a4,a5⟩:=(T.box 1 rfl).b6;have D:True:=trivial;go_region_law
     (first
      | (clear D; rw [cR (by simp [Region.wanted])]; go_simp; (with_reducible refine (C.out _ T.b).mono ?_); rintro e wa ⟨va,rfl,F,H⟩; obtain ⟨A5,c5,B5,d5,rfl,P⟩:=F.ty; dsimp only; replace T:=T.call H; replace c1:=cW H c1; have a0:=T.c 1 0 rfl rfl; obtain ⟨w9,E,G,p⟩:=(hm.below T.b).nj ho.1 ho.2 (vM a A5 c5 B5 d5 60)))
    all_goals
     have L:iN w9 g b (fun i=>if i=k then some ⟨a,60⟩else N i):=iN.put (hm.below T.b) (fun i hi=>(he i hi).below T.b) c1 R k (by have:=hk.out;omega) (some (vM a A5 c5 B5 d5 60)) (some ⟨a,60⟩) ⟨A5,c5,B5,d5,rfl,P.out _ cy⟩ (by rw[←hk.out];exact G) p;have K:w.grownBy w9 (some b):=(ij T.b _).trans p;have q:instN N a=fun i=>if i=k then some ⟨a,60⟩else N i:=by rw[e3.out,hk.out];rfl
     replace q:=φ q;clear e3 G p T c1 E;go_wp2;go_ret2;exact j.out _ _ _ _ _ e1.out e2.out q.out rfl L K
  |true=>
    obtain⟨hh,y,hu,U⟩:∃hh,N k=some hh∧(.agg #[.int .i64 u0,.int .i64 u1,.int .i64 u2,.bool u3,.slice A9 n9 c9,.slice B9 m9 d9,.int .i64 u6]:Value)=vM hh.x A9 c9 B9 d9 hh.l∧eU w (ig hh.x.o hh.x.s hh.x.a hh.x.ov A9 hh.x.adj.length c9 B9 hh.x.pre.length d9) hh.x:=by
     rw[hk.out]at m n;cases hM:M (k:Int)with
     |none=>have:=m.out;rw[hM]at this;cases this
     |some vv=>
       rw[hM]at f;cases hN:N k with
       |none=>rw[hN]at f;exact f.elim
       |some hh=>
         rw[hN]at f;obtain⟨A8,c8,B8,d8,rfl,X⟩:=f;have hv:=n.out;rw[hM]at hv;simp only[Option.getD_some,eE,eS,dJ,dp,jr,jO,fE,fv]at hv;obtain⟨rfl,rfl,rfl,rfl,⟨rfl,rfl,rfl⟩,⟨rfl,rfl,rfl⟩,rfl⟩:=hv;exact⟨hh,rfl,rfl,X.1⟩
    simp only[eE,eS,dJ,dp,jr,jO,fE,fv]at hu;obtain⟨rfl,rfl,rfl,rfl,rfl,rfl,rfl⟩:=hu;have NW:=rN w2 _ _ a hh.x (hl.below S2.b) (U.below S2.b);obtain⟨z,hz⟩:∃z,kO a hh.x=z:=⟨_,rfl⟩
    rw[hz]at NW;replace NW:=φ NW;obtain⟨a0,a1,a2,a3,a4,a5⟩:=(S2.box 1 rfl).b6;obtain⟨r0,r1,r2,r3,r4,r5⟩:=(S2.box 0 rfl).b6;go_wp2_with fail;(with_reducible refine(NW.out).mono ?_);rintro e w3 ⟨rfl,hb⟩;clear a0 a1 a2 a3 a4 a5;clear r0 r1 r2 r3 r4 r5;have S3:=S2.call hb;have c0:=cW hb c2;clear NW hb S2;have hR:instR N a=if z=0 then 2 else if z= -1 then 3 else 1:=by unfold instR;rw[hvb,cR rfl,hk.out,cU,y];simp only[hz]
    by_cases hz0:z=0
    ·subst hz0;have e1:instR N a=2:=by rw[hR,cR rfl]
     have e3:instN N a=N:=by unfold instN;rw[e1,cN (by simp)]
     obtain⟨f1,f2⟩:=t.out _ S3.b;replace e1:=φ e1;replace e3:=φ e3;clear hR hz y;go_wp2;go_ret2;exact j.out _ _ _ _ _ e1.out e2.out e3.out rfl f1 f2
    by_cases hz1:z= -1
    ·subst hz1;have e1:instR N a=3:=by rw[hR,cN (by omega),cR rfl]
     have e3:instN N a=N:=by unfold instN;rw[e1,cN (by simp)]
     obtain⟨f1,f2⟩:=t.out _ S3.b;replace e1:=φ e1;replace e3:=φ e3;clear hR hz y hz0;go_wp2;go_ret2;exact j.out _ _ _ _ _ e1.out e2.out e3.out rfl f1 f2
    have e1:instR N a=1:=by rw[hR,cN hz0,cN hz1]
    have z0:(z==0)=false:=by simpa using hz0
    have z1:(z== -1)=false:=by simpa using hz1
    clear hR hz y hz0 hz1;have e3:instN N a=fun i=>if i=a.o.toNat then some ⟨a,60⟩else N i:=by unfold instN;rw[cR ⟨hvb,e1⟩]
    replace e1:=φ e1;replace e3:=φ e3;clear n m L0 f;have Z:=JV b;go_upto_region 14 with fail;have T:=S3.drew;have c1:=c0;replace c1:World.cell? (World.drew _) ⟨g,0,none⟩=some (.map (some b)):=c1;obtain⟨a0,a1,a2,a3,a4,a5⟩:=(T.box 1 rfl).b6;have D:True:=trivial;go_region_law
     (first
      | (clear D; rw [cR (by simp [Region.wanted])]; go_simp; (with_reducible refine (C.out _ T.b).mono ?_); rintro e wa ⟨va,rfl,F,H⟩; obtain ⟨A5,c5,B5,d5,rfl,P⟩:=F.ty; dsimp only; replace T:=T.call H; replace c1:=cW H c1; have a0:=T.c 1 0 rfl rfl; obtain ⟨w9,E,G,p⟩:=(hm.below T.b).nj ho.1 ho.2 (vM a A5 c5 B5 d5 60)))
    all_goals
     have L:iN w9 g b (fun i=>if i=k then some ⟨a,60⟩else N i):=iN.put (hm.below T.b) (fun i hi=>(he i hi).below T.b) c1 R k (by have:=hk.out;omega) (some (vM a A5 c5 B5 d5 60)) (some ⟨a,60⟩) ⟨A5,c5,B5,d5,rfl,P.out _ cy⟩ (by rw[←hk.out];exact G) p;have K:w.grownBy w9 (some b):=(ij T.b _).trans p;have q:instN N a=fun i=>if i=k then some ⟨a,60⟩else N i:=by rw[e3.out,hk.out];rfl
     replace q:=φ q;clear e3 G p T c1 E;go_wp2;go_ret2;exact j.out _ _ _ _ _ e1.out e2.out q.out rfl L K
def jR(N:Db)(i:Int):Option Hd:=if 0≤i∧i<64 then N i.toNat else none
def eX(o:Option Hd):La:=match o with|some h=>h.x|none=>dT
def Dg(N:Db):Prop:=∀i h,N i=some h→h.x.adj.length≤1000000∧h.x.pre.length≤1000000
def CY{w:World}{g b:Nat}{N:Db}(h:iN w g b N)(hf:Dg N)(i:Int):∃M,dV w b M∧(M i).isSome=(jR N i).isSome∧(∃A c B d l,(M i).getD JP=vM (eX (jR N i)) A c B d l∧eU w (ig (eX (jR N i)).o (eX (jR N i)).s (eX (jR N i)).a (eX (jR N i)).ov A (eX (jR N i)).adj.length c B (eX (jR N i)).pre.length d) (eX (jR N i))) ∧
  (eX (jR N i)).adj.length≤1000000∧(eX (jR N i)).pre.length≤1000000:=by
 obtain⟨⟨M,hm,he⟩,hc⟩:=h;refine⟨M,hm,?_⟩
 by_cases hi:0≤i∧i<64
 ·have e1:jR N i=N i.toNat:=by unfold jR;rw[cR hi]
  have e:=he i.toNat (by omega);rw[dR hi.1]at e;rw[e1];cases hM:M i with
  |none=>
    rw[hM]at e;cases hN:N i.toNat with
    |none=>exact⟨rfl,⟨none,0,none,0,0,rfl,(fQ w w).at⟩,by simp[eX,dT],by simp[eX,dT]⟩
    |some hh=>rw[hN]at e;exact e.elim
  |some v=>
    rw[hM]at e;cases hN:N i.toNat with
    |none=>rw[hN]at e;exact e.elim
    |some hh=>
      rw[hN]at e;obtain⟨A,c,B,d,rfl,hl⟩:=e;exact⟨rfl,⟨A,c,B,d,hh.l,rfl,hl.1⟩,(hf _ _ hN).1,(hf _ _ hN).2⟩
 ·have e1:jR N i=none:=by unfold jR;rw[cN hi]
  have hM:M i=none:=by
   cases h2:M i with
   |none=>rfl
   |some v=>exact absurd (hm.small (i:=i) (by rw[h2];rfl)) (by omega)
  rw[e1,hM];exact⟨rfl,⟨none,0,none,0,0,rfl,(fQ w w).at⟩,by simp[eX,dT],by simp[eX,dT]⟩
def xr(w:World)(o:Option Hd)(e:Ending)(w':World):Prop :=
 ∃v,e= .returned (.tuple #[v,o.isSome])∧fh w' w v (eX o)∧cI w w'
def Ay(w:World)(g b:Nat)(N:Db)(i:Int)(hi:(Lit.int .i64 i).wf=true)(h:iN w g b N)(hf:Dg N):Calls prog 92 #[.pointer (some ⟨g,0,none⟩),i] w (xr w (jR N i)):=by
 obtain⟨M,hm,hs,⟨A,c,B,d,l,hv,hl⟩,n,m⟩:=CY h hf i;have hc:=h.cell;generalize hG:jR N i=G at *;have S:=(St.start w).nw #[i0,i0,i0,false,sn,sn] 41 w;have p:=cW S.b hc;have L:=(hm.below S.b).lE hi;rw[hv,hs]at L;unfold xr;generalize G.isSome=ok at *;generalize eX G=x at *;have C:=fun W hb=>py 105 (.inl rfl) W _ x (hl.below hb) n m
 unfold vM at L;replace C:=φ C;clear hl hv hm hs h hf hG n m hi;have r0:=S.c 0 0 rfl rfl;have r1:=S.c 0 1 rfl rfl;have r2:=S.c 0 2 rfl rfl;have r3:=S.c 0 3 rfl rfl;have r4:=S.c 0 4 rfl rfl;have r5:=S.c 0 5 rfl rfl;go_in;go_upto_region 4 with fail;have S2:=S.nw #[x.o,x.s,x.a,x.ov,.slice A x.adj.length c,.slice B x.pre.length d,l] 206 (w.heap.size+1);clear r0 r1 r2 r3 r4 r5 L p S hc;generalize World.alloc (World.alloc _ _) _=w2 at *;have a0:=S2.c 0 0 rfl rfl;have a1:=S2.c 0 1 rfl rfl;have a2:=S2.c 0 2 rfl rfl;have a3:=S2.c 0 3 rfl rfl;have a4:=S2.c 0 4 rfl rfl;have a5:=S2.c 0 5 rfl rfl;have a6:=S2.c 0 6 rfl rfl;go_wp2_with fail;refine (C _ S2.b).mono ?_;rintro e w3 ⟨v3,rfl,j,hb⟩;have T:=(S2.call hb).dX [(w,[i0,i0,i0,false,sn,sn])] (by simp);have q:=S2.b.size;have k:=S2.lt 1 rfl (by simp);obtain⟨A1,c1,B1,d1,rfl,o1,o2,hu⟩:=j;clear a0 a1 a2 a3 a4 a5 a6 S2 hb C;have r0:=T.c 0 0 rfl rfl;have r1:=T.c 0 1 rfl rfl;have r2:=T.c 0 2 rfl rfl;have r3:=T.c 0 3 rfl rfl;have r4:=T.c 0 4 rfl rfl;have r5:=T.c 0 5 rfl rfl;have f0:=T.f 0 0 rfl rfl;have f1:=T.f 0 1 rfl rfl;have f2:=T.f 0 2 rfl rfl;have f3:=T.f 0 3 rfl rfl;have f4:=T.f 0 4 rfl rfl;have f5:=T.f 0 5 rfl rfl;have S9:=T.wg x.o x.s x.a x.ov (.slice A1 x.adj.length c1) (.slice B1 x.pre.length d1) cj (by simp);have q1:=jW o1 k (.int .i64 x.o) (.int .i64 x.s) (.int .i64 x.a) (.bool x.ov) (.slice A1 x.adj.length c1) (.slice B1 x.pre.length d1);have q2:=jW o2 k (.int .i64 x.o) (.int .i64 x.s) (.int .i64 x.a) (.bool x.ov) (.slice A1 x.adj.length c1) (.slice B1 x.pre.length d1);have hb9:=S9.b;go_wp2;exact dc (v:=.tuple #[ig x.o x.s x.a x.ov A1 x.adj.length c1 B1 x.pre.length d1,ok]) (by simp[results,results92,go_sem,r0,r1,r2,r3,r4,r5]) rfl ⟨_,rfl,⟨A1,c1,B1,d1,rfl,dx q1 (by omega),dx q2 (by omega),hu⟩,hb9⟩
def kY(n:Int)(h:Hd):Option Hd× Bool :=
 if h.x.a<3600 then
  if n<3600 - h.x.a then(some ⟨{ h.x with a:=h.x.a+n },h.l⟩,false)
  else(if 60≤n - (3600 - h.x.a)then none else some ⟨iH h.x,60 - (n - (3600 - h.x.a))⟩,true)
 else(if h.l≤n then none else some ⟨h.x,h.l - n⟩,false)
def ic(n:Int)(N:Db):Db:=fun i=>match N i with|some h=>(kY n h).1|none=>none
def wS(n:Int)(o:Option Hd):Bool:=match o with|some h=>(kY n h).2|none=>false
def eR(N:Db):List Int:=((List.range 64).map fun(i:Nat)=>(i:Int)).filter fun i=>(N i.toNat).isSome
def kh(n:Int)(N:Db):List Int:=(eR N).filter fun i=>wS n (N i.toNat)
def lY(N:Db):Prop:=∀i h,N i=some h→dS h.x∧h.x.o=(i:Int)∧1≤h.l∧h.l≤60
def lY.X5{N:Db}(h:lY N):Dg N:=fun i x e=>by
 have:=(h i x e).1;exact⟨by have:=this.2.2.2.1;omega,by have:=this.2.2.2.2.1;omega⟩
def jf{N:Db}(i:Int):i∈eR N↔(0≤i∧i<64)∧(N i.toNat).isSome=true:=by
 unfold eR;rw[dW,dL];constructor
 ·rintro⟨⟨k,hk,rfl⟩,h⟩;exact⟨⟨by omega,by have:=ec.1 hk;omega⟩,h⟩
 ·rintro⟨⟨h0,h1⟩,h⟩;exact⟨⟨i.toNat,ec.2 (by omega),dR h0⟩,h⟩
def pW(N:Db):(eR N).Pairwise (· < ·):=by
 unfold eR;refine mG _ ?_;rw[gM];exact ju.imp fun h=>by omega
def lg(N:Db):(eR N).length≤64:=by
 unfold eR;refine cZ cz ?_;simp
def vq{w:World}{b:Nat}{M:Int→Option Value}{N:Db}(hm:dV w b M)(he:∀i:Nat,i<64→iu w (M (i:Int)) (N i)):iz M=eR N:=by
 unfold iz eR;refine gN fun i hi=>?_
 obtain⟨k,hk,rfl⟩:=dL.1 hi;have:=he k (ec.1 hk);rw[cU];cases hM:M (k:Int)with
 |none=>
   rw[hM]at this;cases hN:N k with
   |none=>rfl
   |some x=>rw[hN]at this;exact this.elim
 |some v=>
   rw[hM]at this;cases hN:N k with
   |none=>rw[hN]at this;exact this.elim
   |some x=>rfl
def BN(n:Int)(N:Db)(k:Nat):Db:=fun j=>if (j:Int)∈(eR N).take k then ic n N j else N j
def Lv(n:Int)(N:Db):BN n N 0=N:=by funext j;simp[BN]
def Pl(n:Int)(N:Db)(hN:∀i,64≤i→N i=none):BN n N (eR N).length=ic n N:=by
 funext j
 unfold BN;rw[List.take_length]
 by_cases h:(j:Int)∈eR N
 ·rw[if_pos h]
 ·rw[if_neg h];have:N j=none:=by
   cases hj:N j with
   |none=>rfl
   |some x=>
     by_cases h6:j<64
     ·exact absurd ((jf (N:=N) (j:Int)).2 ⟨⟨by omega,by omega⟩,by rw[Int.toNat_natCast,hj];rfl⟩) h
     ·have:=hN j (by omega);rw[hj]at this;cases this
  unfold ic;rw[this]
def Lw(n:Int)(N:Db)(k:Nat)(hk:k< (eR N).length)(q:Nat)(hq:(eR N)[k]=(q:Int)):BN n N (k+1)=fun j=>if j=q then ic n N q else BN n N k j:=by
 funext j
 unfold BN;rw[List.take_succ_eq_append_getElem hk,hq]
 by_cases h:j=q
 ·subst h;rw[if_pos (by simp),if_pos rfl]
 ·rw[if_neg h]
  by_cases h2:(j:Int)∈(eR N).take k
  ·rw[if_pos (by simp[h2]),if_pos h2]
  ·rw[if_neg (by simp[h2];omega),if_neg h2]
def Ti(n:Int)(N:Db)(k:Nat)(hk:k< (eR N).length)(q:Nat)(hq:(eR N)[k]=(q:Int)):BN n N k q=N q:=by
 unfold BN;rw[cN];intro hm;have hp:=pW N;obtain⟨i,hi,e⟩:=eG hm;rw[eM]at hi;rw[I0]at e;have:=ny.1 hp i k (by omega) hk (by omega);rw[e,hq]at this;omega
def Hl(n:Int)(N:Db)(k:Nat)(hk:k< (eR N).length)(q:Nat)(hq:(eR N)[k]=(q:Int)):((eR N).take (k+1)).filter (fun i=>wS n (N i.toNat))=((eR N).take k).filter (fun i=>wS n (N i.toNat))++(if wS n (N q)=true then [(q:Int)]else []):=by
 rw[cT hk,hq,gC]
 congr 1
 rw[List.filter_cons,cU];split<;>simp
def D5{w0 w w':World}{b B:Nat}(h:w0.grownBy w (some b))(hb:Below B w w')(hB:w0≤B):w0.grownBy w' (some b) :=
 ⟨hb.os.trans h.os,hb.tape.trans h.tape,hb.output.trans h.output,cZ h.size hb.size,fun k hk a=>(hb.block k (eh hk hB)).trans (h.block k hk a)⟩
def dV.my{w w':World}{b B:Nat}{M:Int→Option Value}(h:dV w b M)(hb:Below B w w')(hB:b<B):dV w' b M:=by
 obtain⟨D,⟨es,clock,h1,h2⟩,hd⟩:=h;exact⟨D,⟨es,clock,(hb.block b hB).trans h1,h2⟩,hd⟩
def HW{w w':World}{base:Nat}{e:TypeId}{size:Nat}{v:Value}{n:Nat}{xs:cH}{B:Nat}(h:w.ownsRow base e size v n xs)(hb:Below B w w')(hB:∀k,v.ownBlock=some k→k<B):w'.ownsRow base e size v n xs:=by
 refine⟨h.1,?_⟩
 rcases h.2 with h2|⟨g,cap,cur,rfl,hg,hh,r⟩
 ·exact .inl h2
 ·exact .inr ⟨g,cap,cur,rfl,hg,(hb.block g (hB g rfl)).trans hh,r⟩
def FI{w w':World}{base:Nat}{e:TypeId}{size:Nat}{v:Value}{n:Nat}{xs:cH}{b:Nat}(h:w.ownsRow base e size v n xs)(hg:w.grownBy w' (some b))(hB:b<base):w'.ownsRow base e size v n xs:=by
 refine⟨h.1,?_⟩
 rcases h.2 with h2|⟨g,cap,cur,rfl,a,hh,r⟩
 ·exact .inl h2
 ·exact .inr ⟨g,cap,cur,rfl,a,(hg.block g (h.lt g rfl).2 (fun e=>by injection e;omega)).trans hh,r⟩
def dV.tP{w:World}{b:Nat}{M:Int→Option Value}(h:dV w b M){i:Int}(hi:(Lit.int .i64 i).wf=true)(ty:TypeId) :
  ∃w',(Builtin.delete_ #[157,3] ty #[.map (some b),i]).run prog w= .ok (.tuple #[]) w'∧dV w' b (fun j=>if j=i then none else M j)∧w.grownBy w' (some b):=by
 obtain⟨D,c,hd⟩:=h;obtain⟨w',a,r1,r2⟩:=c.drop wO underlying157 (rQ hi) ty;exact⟨w',a,.of r1 (hd.del i),r2.grown⟩
def wU(w:World)(g b:Nat)(N:Db)(h:iN w g b N):Calls prog 104 #[.pointer (some ⟨g,0,none⟩)] w fun e w'=>∃A c,e= .returned (.slice A (eR N).length c) ∧
  w'.ownsRow w 3 1 (.slice A (eR N).length c) (eR N).length ((eR N).map encZ)∧cI w w':=by
 obtain⟨⟨M,hm,he⟩,hc⟩:=h;have f:=vq hm he;obtain⟨D,d,hd⟩:=hm;have hs:=oK d hd;refine(FP g b 64 D BO w hc d (by unfold maxLen;omega) (by omega)).mono ?_;rintro e w' ⟨v,ss,he,hp,a,i,hb⟩;rw[qy d hd hp,f]at a;have hl:ss.length=(eR N).length:=by
  rw[←f,←qy d hd hp,YM]
 rw[hl]at a;obtain⟨A,c,rfl,_⟩:=dN a;exact⟨A,c,he,a,hb⟩
def D1:iF prog 58 3 (.int .i64 0) 1 8:=⟨underlying58,by kernel_rfl,rfl,by omega⟩
def yi(w:World)(g b:Nat)(N:Db)(n:Int)(e:Ending)(w':World):Prop :=
 ∃v,e= .returned v∧w'.ownsRow w 3 1 v (kh n N).length ((kh n N).map encZ)∧iN w' g b (ic n N)∧w.grownBy w' (some b)
structure Ug (w wr:World) (g b:Nat) (N:Db) (n:Int) (B:Nat) (v14 v5:Value) (k:Nat) (es:List Int):Prop where
 ex:∃M,dV wr b M∧ ∀i:Nat,i<64→iu w (M (i:Int)) (BN n N k i)
 cell:wr.cell? ⟨g,0,none⟩=some (.map (some b))
 gr:w.grownBy wr (some b)
 o14:wr.ownsRow w 3 1 v14 (eR N).length ((eR N).map encZ)
 o5:wr.ownsRow B 3 1 v5 es.length (es.map encZ)
 he:es=((eR N).take k).filter (fun i=>wS n (N i.toNat))
 sz:B≤wr
def mq{w:World}{base:Nat}{e:TypeId}{size:Nat}{v:Value}{n:Nat}{xs:cH}(h:w.ownsRow base e size v n xs){p:Addr}(hp:∀k,v.ownBlock=some k→k≠p.block)(u:Value):(w.setCell p u).ownsRow base e size v n xs:=by
 refine⟨h.1,?_⟩
 rcases h.2 with h2|⟨g,cap,cur,rfl,hg,hh,r⟩
 ·exact .inl h2
 ·exact .inr ⟨g,cap,cur,rfl,hg,(lV w p g u (fun e=>hp g rfl e)).trans hh,r⟩
structure GJ (w W:World) (g b:Nat) (M:Int→Option Value) (N:Db) (B:Nat) (v14 v5:Value) (es:List Int) (g2:Nat) (cs:cH):Prop where
 hm:dV W b M
 c:W.cell? ⟨g,0,none⟩=some (.map (some b))
 gr:w.grownBy W (some b)
 o14:W.ownsRow w 3 1 v14 (eR N).length ((eR N).map encZ)
 o5:W.ownsRow B 3 1 v5 es.length (es.map encZ)
 l14:∀bb,v14.ownBlock=some bb→bb<B
 l5:∀bb,v5.ownBlock=some bb→bb≠g2
 bx:fq W g2 cs
 pos:0<cs.length
 hB:B≤g2
 hw:w≤B
 hg:g<w
 hb:b<w
section
variable {w W W':World} {g b:Nat} {M:Int → Option Value} {N:Db} {B:Nat} {v14 v5:Value} {es:List Int} {g2:Nat} {cs:cH}
def GJ.sz(h:GJ w W g b M N B v14 v5 es g2 cs):B≤W:=cZ h.hB (iR (h.bx.lt h.pos))
def GJ.set(h:GJ w W g b M N B v14 v5 es g2 cs)(j:Nat)(u:Value)(hj:j<cs.length)(a:cH)(f:cs.set j u=a):GJ w (W.setCell ⟨g2,j,none⟩ u) g b M N B v14 v5 es g2 a:=by
 subst f;have h1:=h.hB;have h2:=h.hw;have h3:=h.hg;have h4:=h.hb;refine⟨h.hm.kept (dk W g2 j u) (fun e=>by injection e;omega),(cell_far u (by intro e;injection e;omega)).trans h.c,?_,mq h.o14 (fun k hk=>by have:=h.l14 k hk;simp only;omega) u,mq h.o5 (fun k hk=>h.l5 k hk) u,h.l14,h.l5,h.bx.set j u hj,by rw[dw];exact h.pos,h.hB,h.hw,h.hg,h.hb⟩
 have hg:=dk W g2 j u;refine⟨hg.os.trans h.gr.os,hg.tape.trans h.gr.tape,hg.output.trans h.gr.output,cZ h.gr.size hg.size,fun k hk d=>?_⟩
 exact(hg.block k (eh hk h.gr.size) (fun e=>by injection e;omega)).trans (h.gr.block k hk d)
def GJ.below(h:GJ w W g b M N B v14 v5 es g2 cs)(hb:cI W W'):GJ w W' g b M N B v14 v5 es g2 cs :=
 ⟨h.hm.below hb,cW hb h.c,h.gr.trans (ij hb _),dg h.o14 hb,dg h.o5 hb,h.l14,h.l5,h.bx.later hb,h.pos,h.hB,h.hw,h.hg,h.hb⟩
def GJ.drew(h:GJ w W g b M N B v14 v5 es g2 cs):GJ w W.drew g b M N B v14 v5 es g2 cs:=h.below ⟨rfl,rfl,rfl,cj,fun _ _=>rfl⟩
def GJ.app(h:GJ w W g b M N B v14 v5 es g2 cs){d:Value}{f:List Int}(ho:W'.ownsRow B 3 1 d f.length (f.map encZ))(a:Below B W W')(hg:W.grownBy W' v5.ownBlock)(hv:d.ownBlock=v5.ownBlock∨d.ownBlock=some W.heap.size):GJ w W' g b M N B v14 d f g2 cs:=by
 have h1:=h.hB;have h2:=h.hw;have h3:=h.hg;have h4:=h.hb;have hl:=h.bx.lt h.pos;refine⟨h.hm.my a (by omega),(a.cell (p:=⟨g,0,none⟩) (by simp only;omega)).trans h.c,D5 h.gr a h.hw,HW h.o14 a h.l14,ho,h.l14,fun bb e=>?_,h.bx.kept hg (fun e=>h.l5 g2 e.symm rfl) h.pos,h.pos,h.hB,h.hw,h.hg,h.hb⟩
 rcases hv with e2|e2
 ·exact h.l5 bb (e2▸e)
 ·rw[e2]at e;injection e;omega
def GJ.fin(h:GJ w W g b M N B v14 v5 es g2 cs){w9:World}(d:W.grownBy w9 (some b)):w9.cell? ⟨g,0,none⟩=some (.map (some b))∧w.grownBy w9 (some b)∧w9.ownsRow w 3 1 v14 (eR N).length ((eR N).map encZ)∧w9.ownsRow B 3 1 v5 es.length (es.map encZ)∧B≤w9:=by
 have h1:=h.hB;have h2:=h.hw;have h3:=h.hg;have h4:=h.hb;have f:g≠b:=fun e=>by have:=h.c;rw[e,h.hm.tT]at this;cases this
 refine⟨?_,h.gr.trans d,FI h.o14 d h.hb,FI h.o5 d (by omega),cZ h.sz d.size⟩
 rw[cY (a:=⟨g,0,none⟩) (d.block g (dm _ _ h.c) (fun e=>f (by injection e)))];exact h.c
end
def Mg(w:World)(g b:Nat)(N:Db)(n:Int)(h:iN w g b N)(ak:lY N)(hN:∀i,64≤i→N i=none)(aP:0<n)(hn:n≤1000000) :
  Calls prog 91 #[pt g,.int .i64 n] w (yi w g b N n):=by
 have O:=wU w g b N h;have aS:=h.ne;obtain⟨aJ,aL⟩:=h.lt;have hlen:=lg N;have aB:Hid (∀(wr:World) (B:Nat) (ar v5:Value) (es:List Int),w.heap.size≤B→Ug w wr g b N n B ar v5 (eR N).length es→yi w g b N n (.returned v5) wr):=fun wr B ar v5 es hB T=>by
  obtain⟨M,hm,he⟩:=T.ex;rw[Pl n N hN]at he;have e2:es=kh n N:=by rw[T.he,dE];rfl
  refine⟨v5,rfl,?_,⟨⟨M,hm,fun i hi=>?_⟩,T.cell⟩,T.gr⟩
  ·rw[←e2];exact dx T.o5 hB
  ·have aH:=h.ex;obtain⟨M0,aI,_⟩:=aH;exact(he i hi).mx aI T.gr
 obtain⟨⟨M,hm,he⟩,hc⟩:=id h;replace O:=φ O;go_in;go_wp2_with fail;(with_reducible refine O.out.mono ?_);rintro e w1 ⟨A,c,rfl,aj,hb⟩;clear O;have hT:Ug w w1 g b N n w1.heap.size (.slice A (eR N).length c) sn 0 [] :=
  ⟨⟨M,hm.below hb,fun i hi=>by rw[Lv];exact he i hi⟩,cW hb hc,ij hb _,aj,cn,by simp,cj⟩
 have ao:Hid (∀bb,(Value.slice A (eR N).length c).ownBlock=some bb→bb<w1.heap.size):=fun bb e=>(aj.lt bb e).2
 have aw:=hb.size;replace hm:=φ hm;clear aj hb he hc h;generalize hB:w1.heap.size=B at *;clear hB;change Hid _ at hT hN ak;generalize hL:(eR N).length=len at *;replace hL:=φ hL;go_wp2_with fail;go_loopw [5,16] (fun v5 ah wr=>∃(k:Nat) (es:List Int),ah= .int .i64 k∧k≤len∧es.length≤k∧Hid (Ug w wr g b N n B (.slice A len c) v5 k es)) (fun _ ah _=>len - (intOf ah).toNat)
 case atStart=>exact⟨0,[],rfl,by omega,by simp,hT⟩
 case round=>
  clear hT;obtain⟨k,es,rfl,hk,aT,hT⟩:=hrel
  by_cases hkn:k<len
  ·have K:k< (eR N).length:=by rw[hL.out];exact hkn
   obtain⟨⟨Mk,am,aq⟩,aC,aA,W,al,Y,ay⟩:=hT.out;have Q:=(jf (N:=N) (eR N)[k]).1 (di K);obtain⟨q,hq⟩:=de Q.1.1;have az:q<64:=by have:=Q.1.2;omega
   obtain⟨hh,aa⟩:∃hh,N q=some hh:=by
    have:=Q.2;rw[hq,cU]at this;exact dC.1 this
   have aD:=Ti n N k K q hq;have U:=Lw n N k K q hq;have S:=Hl n N k K q hq;have heq:=aq q az;rw[aD,aa]at heq;obtain⟨Mv,ac⟩:=ex (Mk (q:Int))
   rw[ac]at heq;cases Mv with
   |none=>exact heq.elim
   |some vv=>
   obtain⟨A2,c2,B2,d2,rfl,J⟩:=heq;obtain⟨ax,av,aR,aQ⟩:=ak.out q hh aa;have aM:=ax.2.2.1;have I:=W;rw[hL.out]at I;have au:=dQ I;clear I;have L:=am.mM (i:=(q:Int)) (lW (by omega) (by omega));rw[ac]at L;simp only[Option.getD_some]at L;unfold vM at L;obtain⟨ad,F,rfl,ae⟩:=gE au (by simpa using oH (jw _) K);have aG:Cv wr ad (F+k) (q:Int):=ae k _ (by rw[eJ,cM K,hq];rfl);clear ae au;have C:Hid (∀ (H:World) (ag:Value) (es':List Int) (Mn:Int → Option Value),dV H b (fun j=>if j = (q:Int) then Mn q else Mk j) → iu w (Mn q) (ic n N q) → Cv H g 0 (.map (some b)) → w.grownBy H (some b) →
     H.ownsRow w.heap.size 3 1 (.slice (some ⟨ad,F,none⟩) len c) (eR N).length ((eR N).map encZ)→H.ownsRow B 3 1 ag es'.length (es'.map encZ)→es'=es++(if wS n (N q)=true then [(q:Int)]else [])→B≤H.heap.size→
     Ug w H g b N n B (.slice (some ⟨ad,F,none⟩) len c) ag (k + 1) es'):=fun H ag es' Mn h1 h2 h3 h4 h5 h6 h7 h8=>by
    refine⟨⟨_,h1,fun i hi=>?_⟩,h3,h4,h5,h6,by rw[h7,S,←Y],h8⟩
    rw[U]
    by_cases e:i=q
    ·subst e;simp only[gy];exact h2
    ·have e':¬(i:Int)=(q:Int):=by omega
     simp only[cN e,cN e'];exact aq i hi
   clear U S aD aq Q hq K hT;change Hid _ at Y ac av aa;have E:Hid (ic n N q=(kY n hh).1∧wS n (N q)=(kY n hh).2):=by
    show _∧_
    unfold ic wS;rw[aa.out];exact⟨rfl,rfl⟩
   have b9:=cQ wr (.cells #[hh.x.o,hh.x.s,hh.x.a,.bool hh.x.ov,.slice A2 hh.x.adj.length c2,.slice B2 hh.x.pre.length d2,hh.l] 206);have d:GJ w (wr.alloc (.cells #[hh.x.o,hh.x.s,hh.x.a,.bool hh.x.ov,.slice A2 hh.x.adj.length c2,.slice B2 hh.x.pre.length d2,hh.l] 206)) g b Mk N B (.slice (some ⟨ad,F,none⟩) len c) u5 es wr.heap.size [hh.x.o,hh.x.s,hh.x.a,.bool hh.x.ov,.slice A2 hh.x.adj.length c2,.slice B2 hh.x.pre.length d2,hh.l] :=
    ⟨am.below b9,cW b9 aC,aA.trans (ij b9 (some b)),dg W b9,dg al b9,ao.out,fun bb e=>by have:=(al.lt bb e).2;omega,fq.iE wr #[hh.x.o,hh.x.s,hh.x.a,.bool hh.x.ov,.slice A2 hh.x.adj.length c2,.slice B2 hh.x.pre.length d2,hh.l] 206 wr.heap.size _ rfl rfl,by simp,ay,aw,aJ,aL⟩
   go_upto_region 9 with fail;clear aG L am aC aA W al ay b9;generalize wr.alloc _=w2 at *;generalize wr.heap.size=g2 at *
   by_cases hA:hh.x.a<3600
   ·by_cases hB1:n<3600 - hh.x.a
    ·have t:kY n hh=(some ⟨{ hh.x with a:=hh.x.a+n },hh.l⟩,false):=by unfold kY;rw[cR hA,cR hB1]
     have e1:=E.out.1;have e2:=E.out.2;rw[t]at e1 e2;have vL:Hid (iu w (some (.agg #[hh.x.o,hh.x.s,.int .i64 (hh.x.a+n),.bool hh.x.ov,.slice A2 hh.x.adj.length c2,.slice B2 hh.x.pre.length d2,hh.l])) (ic n N q)):=by
      show iu _ _ _
      rw[e1];exact⟨A2,c2,B2,d2,rfl,J.mK hh.x.o hh.x.s (hh.x.a+n) hh.x.ov⟩
     have e3:Hid (es=es++(if wS n (N q)=true then [(q:Int)]else [])):=by show _=_;rw[e2];simp
     have a2:=d.bx.c 2 rfl;have f2:=d.bx.f 2 rfl;have p:=d.set 2 (.int .i64 (hh.x.a+n)) (by simp) [hh.x.o,hh.x.s,.int .i64 (hh.x.a+n),.bool hh.x.ov,.slice A2 hh.x.adj.length c2,.slice B2 hh.x.pre.length d2,hh.l] rfl;clear e1 e2 t E J;go_upto_region 12 with fail;clear a2 f2 d;generalize World.setCell _ _ _=w3 at *;have TD:=p.drew;have c1:=TD.c;have y0:=TD.bx.c 0 rfl;have y1:=TD.bx.c 1 rfl;have y2:=TD.bx.c 2 rfl;have y3:=TD.bx.c 3 rfl;have y4:=TD.bx.c 4 rfl;have y5:=TD.bx.c 5 rfl;have y6:=TD.bx.c 6 rfl;obtain⟨w9,y,u,v⟩:=TD.hm.nj (i:=(q:Int)) (by omega) (by omega) (.agg #[hh.x.o,hh.x.s,.int .i64 (hh.x.a+n),.bool hh.x.ov,.slice A2 hh.x.adj.length c2,.slice B2 hh.x.pre.length d2,hh.l]);obtain⟨t1,t2,t3,t4,t5⟩:=TD.fin v;have r:=C.out w9 u5 es (fun _=>some (.agg #[hh.x.o,hh.x.s,.int .i64 (hh.x.a+n),.bool hh.x.ov,.slice A2 hh.x.adj.length c2,.slice B2 hh.x.pre.length d2,hh.l])) u (vL.out) t1 t2 t3 t4 (e3.out) t5;replace r:=φ r;clear u v t1 t2 t3 t4 t5 TD p;go_region_law (fail)
     all_goals
      clear y y0 y1 y2 y3 y4 y5 y6 c1;go_wp2;go_round
      case rel=>exact⟨k+1,es,by go_num,by omega,by omega,r⟩
      case measure=>simp[intOf];omega
    ·have e1:=E.out.1;have e2:=E.out.2;have t:kY n hh=(if 60≤n - (3600 - hh.x.a)then none else some ⟨iH hh.x,60 - (n - (3600 - hh.x.a))⟩,true):=by unfold kY;rw[cR hA,cN hB1]
     rw[t]at e1 e2;simp only at e1 e2;have e3:Hid (es++ [(q:Int)]=es++(if wS n (N q)=true then [(q:Int)]else [])):=by show _=_;rw[e2];simp
     have P0:=Ik w2 _ hh.x (J.mx hm.out d.gr).1;unfold yg HP HO at P0;rw[nA ax,cR rfl,cR rfl]at P0;have P:Calls prog 146 #[ig hh.x.o hh.x.s hh.x.a hh.x.ov A2 hh.x.adj.length c2 B2 hh.x.pre.length d2] w2 (fun e w'=>∃ A3 c3 B3 d3,e = .returned (.tuple #[ig hh.x.o hh.x.s 3600 false A3 0 c3 B3 0 d3,i0]) ∧ eU w (ig hh.x.o hh.x.s 3600 false A3 0 c3 B3 0 d3) (iH hh.x) ∧ cI w2 w'):=P0.mono (by
      rintro e w' ⟨v3,he,⟨A3,c3,B3,d3,rfl,o1,o2,hu⟩,hb⟩;obtain⟨A8,c8,e8,_,l8,m8⟩:=dN o1;obtain⟨A9,c9,e9,_,l9,m9⟩:=dN o2;injection e8 with e8 e8' e8''
      injection e9 with e9 e9' e9''
      subst e8 e8'' e9 e9'';exact ⟨A3,c3,B3,d3,he,⟨A3,c3,B3,d3,rfl,Rd.nil _ _,Rd.nil _ _,by simp [iH],m8,by simp [iH],m9,by simp [iH]⟩,hb⟩)
     clear P0;replace P:=φ P;replace e1:=φ e1;clear e2 t E J;obtain⟨rest,V⟩:=ex (n - (3600 - hh.x.a))
     have aO:0≤rest:=by omega
     have aN:rest≤1000000:=by omega
     have a0:=d.bx.c 0 rfl;have a1:=d.bx.c 1 rfl;have a2:=d.bx.c 2 rfl;have a3:=d.bx.c 3 rfl;have a4:=d.bx.c 4 rfl;have a5:=d.bx.c 5 rfl;rw[V]at e1;go_upto_region 14 with fail;clear V;go_wp2_with fail;(with_reducible refine P.out.mono ?_);rintro e w3 ⟨A3,c3,B3,d3,rfl,ap,hb⟩;replace ap:=φ ap;have p:=d.below hb;clear P a0 a1 a2 a3 a4 a5 d hb;have ab:=((((((p.set 0 (.int .i64 hh.x.o) (by simp) _ rfl).set 1 (.int .i64 hh.x.s) (by simp) _ rfl).set 2 (.int .i64 3600) (by simp) _ rfl).set 3 (.bool false) (by simp) _ rfl).set 4 (.slice A3 0 c3) (by simp) _ rfl).set 5 (.slice B3 0 d3) (by simp) [hh.x.o,hh.x.s,.int .i64 3600,.bool false,.slice A3 0 c3,.slice B3 0 d3,hh.l] rfl)
     have a0:=p.bx.c 0 rfl;have a1:=p.bx.c 1 rfl;have a2:=p.bx.c 2 rfl;have a3:=p.bx.c 3 rfl;have a4:=p.bx.c 4 rfl;have a5:=p.bx.c 5 rfl;have f0:=p.bx.f 0 rfl;have f1:=p.bx.f 1 rfl;have f2:=p.bx.f 2 rfl;have f3:=p.bx.f 3 rfl;have f4:=p.bx.f 4 rfl;have f5:=p.bx.f 5 rfl;go_upto_region 15 with fail;clear a0 a1 a2 a3 a4 a5 f0 f1 f2 f3 f4 f5 p;generalize World.setCell _ _ _=w4 at *;have a6:=ab.bx.c 6 rfl;have f6:=ab.bx.f 6 rfl;have aF:=ab.set 6 (.int .i64 60) (by simp) [hh.x.o,hh.x.s,.int .i64 3600,.bool false,.slice A3 0 c3,.slice B3 0 d3,.int .i64 60] rfl;go_upto_region 16 with fail;clear a6 f6 ab;generalize World.setCell _ _ _=w5 at *;have Z:=aF.below (cQ w5 (.cells #[.int .i64 (q:Int)] 3));have ai:=Rd.lit w5 #[.int .i64 (q:Int)] 3;have o5:=Z.o5;have af:=Z.sz;have aK:es.length≤64:=by omega
     clear aF
     by_cases hR:60≤rest
     ·have e4:Hid (iu w none (ic n N q)):=by show iu _ _ _;rw[e1.out,cR hR];trivial
      clear e1;go_wp2_with (at_builtin;refine dK rfl D1 (.tmp 64) (.tmp 66) rfl B rfl o5 (m:=1) rfl (by simp) ai (by simp[Value.oneCell']) (by simp only[maxLen];omega) (by omega) af (es.length+1) ((es++ [(q:Int)]).map encZ) rfl (by simp) ?_;intro v6 w6 o6 D X R;have G:=Z.app (f:=es++ [(q:Int)]) (by rw[cX];exact o6) D X R;have a6:=G.bx.c 6 rfl;clear o6 D X R;have c1:=G.c;obtain⟨w9,y,u,v⟩:=G.hm.tP (i:=(q:Int)) (lW (by omega) (by omega)) 0);obtain⟨t1,t2,t3,t4,t5⟩:=G.fin v;have r:=C.out w9 v6 (es++ [(q:Int)]) (fun _=>none) u (e4.out) t1 t2 t3 t4 (e3.out) t5;replace r:=φ r;clear u v t1 t2 t3 t4 t5;go_wp2;go_round
      case rel=>exact⟨k+1,(es++ [(q:Int)]),by go_num,by omega,by rw[cX,lZ];omega,r⟩
      case measure=>simp[intOf];omega
     ·have e4:Hid (iu w (some (.agg #[hh.x.o,hh.x.s,.int .i64 3600,.bool false,.slice A3 0 c3,.slice B3 0 d3,.int .i64 (60 - rest)])) (ic n N q)):=by
       show iu _ _ _
       rw[e1.out,cN hR];exact⟨A3,c3,B3,d3,rfl,ap.out,fun h=>absurd h (by simp[iH]),fun h=>absurd h (by simp[iH])⟩
      clear e1;go_wp2_with (at_builtin;refine dK rfl D1 (.tmp 64) (.tmp 66) rfl B rfl o5 (m:=1) rfl (by simp) ai (by simp[Value.oneCell']) (by simp only[maxLen];omega) (by omega) af (es.length+1) ((es++ [(q:Int)]).map encZ) rfl (by simp) ?_;intro v6 w6 o6 D X R;have G:=Z.app (f:=es++ [(q:Int)]) (by rw[cX];exact o6) D X R;have a6:=G.bx.c 6 rfl;clear o6 D X R;have f6:=G.bx.f 6 rfl);have aE:=G.set 6 (.int .i64 (60 - rest)) (by simp) [hh.x.o,hh.x.s,.int .i64 3600,.bool false,.slice A3 0 c3,.slice B3 0 d3,.int .i64 (60 - rest)] rfl;clear a6 f6 G Z o5 ai;generalize World.setCell _ _ _=w7 at *;have TD:=aE.drew;have c1:=TD.c;have y0:=TD.bx.c 0 rfl;have y1:=TD.bx.c 1 rfl;have y2:=TD.bx.c 2 rfl;have y3:=TD.bx.c 3 rfl;have y4:=TD.bx.c 4 rfl;have y5:=TD.bx.c 5 rfl;have y6:=TD.bx.c 6 rfl;obtain⟨w9,y,u,v⟩:=TD.hm.nj (i:=(q:Int)) (by omega) (by omega) (.agg #[hh.x.o,hh.x.s,.int .i64 3600,.bool false,.slice A3 0 c3,.slice B3 0 d3,.int .i64 (60 - rest)]);obtain⟨t1,t2,t3,t4,t5⟩:=TD.fin v;have r:=C.out w9 v6 (es++ [(q:Int)]) (fun _=>some (.agg #[hh.x.o,hh.x.s,.int .i64 3600,.bool false,.slice A3 0 c3,.slice B3 0 d3,.int .i64 (60 - rest)])) u (e4.out) t1 t2 t3 t4 (e3.out) t5;replace r:=φ r;clear u v t1 t2 t3 t4 t5 TD aE;go_region_law (fail)
      all_goals
       clear y y0 y1 y2 y3 y4 y5 y6 c1;go_wp2;go_round
       case rel=>exact⟨k+1,(es++ [(q:Int)]),by go_num,by omega,by rw[cX,lZ];omega,r⟩
       case measure=>simp[intOf];omega
   ·have t:kY n hh=(if hh.l≤n then none else some ⟨hh.x,hh.l - n⟩,false):=by unfold kY;rw[cN hA]
    have e1:=E.out.1;have e2:=E.out.2;rw[t]at e1 e2;simp only at e1 e2;have e3:Hid (es=es++(if wS n (N q)=true then [(q:Int)]else [])):=by show _=_;rw[e2];simp
    have a2:=d.bx.c 2 rfl;have a6:=d.bx.c 6 rfl
    by_cases hR:hh.l≤n
    ·have e4:Hid (iu w none (ic n N q)):=by show iu _ _ _;rw[e1,cR hR];trivial
     clear e1 e2 t E J;obtain⟨w9,y,u,v⟩:=d.hm.tP (i:=(q:Int)) (lW (by omega) (by omega)) 0;obtain⟨t1,t2,t3,t4,t5⟩:=d.fin v;have r:=C.out w9 u5 es (fun _=>none) u (e4.out) t1 t2 t3 t4 (e3.out) t5;replace r:=φ r;have c1:=d.c;clear u v t1 t2 t3 t4 t5;go_wp2;go_round
     case rel=>exact⟨k+1,es,by go_num,by omega,by omega,r⟩
     case measure=>simp[intOf];omega
    ·have e4:Hid (iu w (some (.agg #[hh.x.o,hh.x.s,hh.x.a,.bool hh.x.ov,.slice A2 hh.x.adj.length c2,.slice B2 hh.x.pre.length d2,.int .i64 (hh.l - n)])) (ic n N q)):=by
      show iu _ _ _
      rw[e1,cN hR];exact⟨A2,c2,B2,d2,rfl,J⟩
     clear e1 e2 t E J;have f6:=d.bx.f 6 rfl;have p:=d.set 6 (.int .i64 (hh.l - n)) (by simp) [hh.x.o,hh.x.s,hh.x.a,.bool hh.x.ov,.slice A2 hh.x.adj.length c2,.slice B2 hh.x.pre.length d2,.int .i64 (hh.l - n)] rfl;go_upto_region 20 with fail;clear a2 a6 f6 d;generalize World.setCell _ _ _=w3 at *;have TD:=p.drew;have c1:=TD.c;have y0:=TD.bx.c 0 rfl;have y1:=TD.bx.c 1 rfl;have y2:=TD.bx.c 2 rfl;have y3:=TD.bx.c 3 rfl;have y4:=TD.bx.c 4 rfl;have y5:=TD.bx.c 5 rfl;have y6:=TD.bx.c 6 rfl;obtain⟨w9,y,u,v⟩:=TD.hm.nj (i:=(q:Int)) (by omega) (by omega) (.agg #[hh.x.o,hh.x.s,hh.x.a,.bool hh.x.ov,.slice A2 hh.x.adj.length c2,.slice B2 hh.x.pre.length d2,.int .i64 (hh.l - n)]);obtain⟨t1,t2,t3,t4,t5⟩:=TD.fin v;have r:=C.out w9 u5 es (fun _=>some (.agg #[hh.x.o,hh.x.s,hh.x.a,.bool hh.x.ov,.slice A2 hh.x.adj.length c2,.slice B2 hh.x.pre.length d2,.int .i64 (hh.l - n)])) u (e4.out) t1 t2 t3 t4 (e3.out) t5;replace r:=φ r;clear u v t1 t2 t3 t4 t5 TD p;go_region_law (fail)
     all_goals
      clear y y0 y1 y2 y3 y4 y5 y6 c1;go_wp2;go_round
      case rel=>exact⟨k+1,es,by go_num,by omega,by omega,r⟩
      case measure=>simp[intOf];omega
  ·obtain rfl:k=len:=by omega
   have hf:=aB.out _ _ _ _ _ aw hT.out;replace hf:=φ hf;clear hT;go_wp2;go_ret;exact hf.out
end Go.Proofs.YtehimhbgakpenaaGreat
