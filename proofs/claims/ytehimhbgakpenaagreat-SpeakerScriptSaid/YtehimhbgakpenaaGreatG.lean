/- Lemmas. -/
import Derived.Maps.RangeWalk
import Derived.Test.YtehimhbgakpenaaGreatChecked
import Derived.Maps.OwnSet
import Derived.Lib.SlKeysI
import Derived.Sort.OwnSortedInts
import Derived.Test.YtehimhbgakpenaaGreatA
set_option linter.all false
set_option maxRecDepth 100000
set_option maxHeartbeats 16000000
namespace Go.Proofs.YtehimhbgakpenaaGreat.Fd
open Go.ChangeMaps Go.MapKept Go.WideShapes Go.Proofs.Tryz
open Go.WideElems (Fit rd rg pl rd_key rd_val rg_of other_key rd_mk)
open Go.Maps (Keyed)
section
variable {H:Type} {P:Program} {k:TypeId} {R:Value → Option (DataW H × List MemPlace)} {w:World} {b r n:Nat} {D:DataW H} {left:Lit → Bool} {cnt:Nat}
def Il(es b:Array MapEntry)(seen:Array Nat)(h:b.toList.map (·.born)=es.toList.map (·.born)):(leftOf b seen).size=(leftOf es seen).size:=by
 have key:∀(l:List MapEntry),(l.filter (fun e=>!seen.contains e.born)).length=((l.map (·.born)).filter (fun x=>!seen.contains x)).length:=fun l=>by
  rw[zc,dh];rfl
 have sz:∀(a:Array MapEntry),(leftOf a seen).size=(a.toList.filter (fun e=>!seen.contains e.born)).length:=fun a=>by
  unfold leftOf;rw[←sI (xs:=Array.filter _ a),Array.toList_filter]
 rw[sz,sz,key,key,h]
def HM{t e:TypeId}(h:w.ranges P k R b r n D left cnt)(K:Keyed P k)(ht:P.underlying t=some (.map k e))(hn:n<maxLen){key val:Value}{kl:Lit}{d:DataW H}{ps:List MemPlace}
  (a:keyOf P k key=some kl) (B:Maps.has D kl=true) (hv:R val=some (d,ps)) :
  ∃w',(Instr.mapUpdate t (.map (some b)) key val).run P w= .ok () w'∧w'.ranges P k R b r n (D.put kl d) left cnt∧w.grownBy w' (some b):=by
 have L:=h.ne;obtain⟨es,clock,since,seen,c0,hb,F,hs,rfl,hr,hold,rfl,s,M,I,G⟩:=h;obtain⟨N,g,l,F',q,_⟩:=Maps.fit_store (R':=R) K ht hb F (oH hs hn) (fun _ _ _ _ hz=>hz) a hv;rcases K.find w a es.toList F.keys with ⟨h1,h2⟩|⟨j,e0,h1,h2,h3⟩
 ·exfalso;obtain⟨p,hp,J⟩:=List.any_eq_true.1 B;obtain⟨x,hx,rfl⟩:=dL.1 (mem_sorted.1 hp);obtain⟨y,hy⟩:=F.reads x hx;have e1:(rg P k R x).1=kl:=WideAt.sameKey_eq J;have e2:=rd_key hy;rw[rg_of hy]at e1;rw[e1]at e2;exact h2 x hx (K.inj e2 a)
 ·have hj:es[j]?=some e0:=by simpa using h2
  have f:(Instr.mapUpdate t (.map (some b)) key val).run P w= .ok () (setBlock w b (.map (es.modify j (fun e'=>{ e' with key:=key,val:=val })) clock)):=by
   simp[Instr.mapUpdate,ql ht,MapKept.run_getObj_map hb,K.check w false a,h1,hj,h3,K.stays w a,MapKept.run_setObj_map _ hb,Result.andThen,setBlock]
  rw[f]at l;have hw:setBlock w b (.map (es.modify j (fun e'=>{ e' with key:=key,val:=val })) clock)=setBlock w b (.map N g):=by injection l
  have ha:=heap_setBlock_same hb (.map (es.modify j (fun e'=>{ e' with key:=key,val:=val })) clock);rw[hw,heap_setBlock_same hb]at ha;injection ha with ha
  injection ha with ha1 ha2
  subst ha1 ha2;have c:(es.modify j (fun e'=>{ e' with key:=key,val:=val })).toList=es.toList.set j { e0 with key:=key,val:=val }:=by rw[Array.toList_modify,modify_eq_set _ _ _ _ h2]
  have A:j<es.toList.length:=(dj.1 h2).1;have C:es.toList[j]=e0:=(dj.1 h2).2;obtain⟨y0,o⟩:=F.reads e0 (eu h2);have z:(rg P k R e0).1=kl:=by
   have:=rd_key o;rw[h3,a]at this;injection this with this
   rw[rg_of o,this]
  have v:(rg P k R { e0 with key:=key,val:=val }).1=kl:=by rw[rg_of (rd_mk a hv)]
  have m:∀x∈es.toList.set j { e0 with key:=key,val:=val },x= { e0 with key:=key,val:=val }∨x∈es.toList:=fun x hx=>by
   rcases vJ hx with h|h
   ·exact .inr h
   ·exact .inl h
  have hD:(DataW.map ((es.toList.map (rg P k R)).foldr DataW.insert [])).put kl d= .map (((es.modify j (fun e'=>{ e' with key:=key,val:=val })).toList.map (rg P k R)).foldr DataW.insert []):=by rw[DataW.put_eq,q]
  refine⟨_,f,⟨_,_,since,seen,c0,heap_setBlock_same hb _,F',by simpa using hs,hD,(heap_setBlock_other hb _ L).trans hr,?_,?_,?_,?_,I,G⟩,⟨rfl,rfl,rfl,by simp[setBlock],fun i _ hi=>heap_setBlock_other hb _ (fun e=>hi (by rw[e]))⟩⟩
  ·intro x hx;rw[c]at hx;rcases m x hx with rfl|hx
   ·exact hold e0 (eu h2)
   ·exact hold x hx
  ·refine Il _ _ _ ?_;rw[c,pQ];have:(es.toList.map (·.born))[j]'(by simpa using A)=e0.born:=by simp only[ng];rw[C]
   show(es.toList.map (·.born)).set j e0.born=_
   rw[←this,List.set_getElem_self]
  ·intro x hx;rw[c]at hx;rcases m x hx with rfl|hx
   ·rw[v,←z];exact s e0 (eu h2)
   ·exact s x hx
  ·intro E u;obtain⟨x,hx,e⟩:=M E u;rw[c];obtain⟨i,hi,ex⟩:=eG hx
   by_cases hij:j=i
   ·subst hij;rw[C]at ex;subst ex;exact⟨{ e0 with key:=key,val:=val },Zy.2 ⟨j,by simpa using A,by simp⟩,by rw[v,←z,e]⟩
   ·exact⟨x,Zy.2 ⟨i,by simpa using hi,by rw[List.getElem_set_ne hij,ex]⟩,e⟩
end
end Go.Proofs.YtehimhbgakpenaaGreat.Fd
namespace Go.Proofs.YtehimhbgakpenaaGreat.Fd
open Go.RowKit Go.Maps Go.Sort Go.Proofs.Tryz
def BO(v:Value):Option (DataW Value× List MemPlace):=some (.held v,[])
def wO:Keyed prog 3:=int_keyed underlying3
def lW{i:Int}(h0:0≤i)(h1:i≤1000):(Lit.int .i64 i).wf=true:=WalkArith.wf_i64 (by omega)
def rQ{i:Int}(h:(Lit.int .i64 i).wf=true):keyOf prog 3 (.int .i64 i)=some (.int .i64 i):=keyOf_int_mk underlying3 h
structure iO (B:Nat) (D:DataW Value) (M:Int→Option Value):Prop where
 at_:∀i z,D.atKey (.int .i64 i) (.held z)= .held ((M i).getD z)
 has_:∀i,Maps.has D (.int .i64 i)=(M i).isSome
 small:∀i,(M i).isSome=true→0≤i∧i< (B:Int)
def xR(i:Int):WideAt.IsKeyLit (.int .i64 i):=by first|trivial|exact⟨⟩|simp[WideAt.IsKeyLit]
def np{i j:Int}(h:j≠i):(Lit.int .i64 j)≠ .int .i64 i:=fun e=>by injection e with _ e;exact h e
def iO.start(B:Nat):iO B (.map []) (fun _=>none):=⟨fun i z=>rfl,fun i=>rfl,fun i h=>by simp at h⟩
def iO.put{B:Nat}{D:DataW Value}{M:Int→Option Value}(h:iO B D M)(hD:Maps.IsMap D){i:Int}(h0:0≤i)(h1:i< (B:Int))(v:Value):iO B (D.put (.int .i64 i) (.held v)) (fun j=>if j=i then some v else M j):=by
 refine⟨fun j z=>?_,fun j=>?_,fun j hj=>?_⟩
 ·by_cases e:j=i
  ·subst e;rw[atKey_put_same hD (xR j)];simp
  ·rw[atKey_put_other (np e),h.at_,cN e]
 ·by_cases e:j=i
  ·subst e;rw[has_put_same hD (xR j)];simp
  ·rw[has_put_other (np e),h.has_];simp only[cN e]
 ·by_cases e:j=i
  ·subst e;exact⟨h0,h1⟩
  ·simp only[cN e]at hj;exact h.small j hj
def iO.del{B:Nat}{D:DataW Value}{M:Int→Option Value}(h:iO B D M)(i:Int):iO B (D.del (.int .i64 i)) (fun j=>if j=i then none else M j):=by
 refine⟨fun j z=>?_,fun j=>?_,fun j hj=>?_⟩
 ·by_cases e:j=i
  ·subst e;rw[atKey_del_same];simp
  ·rw[atKey_del_other (np e),h.at_,cN e]
 ·by_cases e:j=i
  ·subst e;rw[has_del_same];simp
  ·rw[has_del_other (np e),h.has_];simp only[cN e]
 ·by_cases e:j=i
  ·subst e;simp at hj
  ·simp only[cN e]at hj;exact h.small j hj
def iz(B:Nat)(M:Int→Option Value):List Int:=((List.range B).map fun(i:Nat)=>(i:Int)).filter fun i=>(M i).isSome
def mw(B:Nat)(M:Int→Option Value):(iz B M).Pairwise (· < ·):=by
 unfold iz;refine mG _ ?_;rw[gM];exact ju.imp fun h=>by omega
def xP{B:Nat}{M:Int→Option Value}(hs:∀i,(M i).isSome=true→0≤i∧i< (B:Int))(i:Int):i∈iz B M↔(M i).isSome=true:=by
 unfold iz;rw[dW,dL];constructor
 ·rintro⟨_,hk⟩;exact hk
 ·intro h;obtain⟨h0,h1⟩:=hs i h;exact⟨⟨i.toNat,ec.2 (by omega),dR h0⟩,h⟩
def xQ(B:Nat)(M:Int→Option Value):(iz B M).length≤B:=by
 unfold iz;refine cZ cz ?_;simp
section
variable {w w':World} {b nn B:Nat} {D:DataW Value} {M:Int → Option Value}
def keys_perm(a:w.ownsMap prog 3 BO b nn D)(h:iO B D M):(iz B M).Perm (intKeys D):=by
 obtain⟨es,hD,d,_⟩:=a.entries wO;obtain⟨g,c,f⟩:=a.keysOf;obtain rfl:es=g:=by rw[hD]at c;simpa using c
 subst hD;refine perm_intKeys d (fun p hp=>by obtain⟨v,hv⟩:=f p hp;obtain⟨x,_,hx,_⟩:=Maps.keyOf_i64 underlying3 hv;exact⟨x,hx⟩) ?_ (fun x=>by rw[xP h.small,h.has_]);exact(mw B M).imp fun h e=>by omega
def qy(a:w.ownsMap prog 3 BO b nn D)(h:iO B D M){ss:List Int}(hp:ss.Perm (intKeys D)):ss.mergeSort (fun x y=>decide (x≤y))=iz B M:=by
 have h1:ss.mergeSort leI=(iz B M).mergeSort leI:=mergeSort_of_perm_i (hp.trans (keys_perm a h).symm);have h2:(iz B M).mergeSort leI=iz B M:=Uo ((mw B M).imp fun h=>by simp only[leI,fa];omega);exact h1.trans h2
def oK(a:w.ownsMap prog 3 BO b nn D)(h:iO B D M):Maps.size D≤B:=by
 have hp:=(keys_perm a h).length_eq;obtain⟨es,rfl,_⟩:=a.keysOf;rw[show(intKeys (DataW.map es)).length=es.length by simp[intKeys]]at hp;rw[MM,←hp];exact xQ B M
def dV(B:Nat)(w:World)(b:Nat)(M:Int→Option Value):Prop:=∃D,w.ownsMap prog 3 BO b B D∧iO B D M
def dV.of(hown:w.ownsMap prog 3 BO b nn D)(h:iO B D M):dV B w b M:=by
 refine⟨D,?_,h⟩
 have hs:=oK hown h;obtain⟨es,clock,hb,F,_,rfl⟩:=hown;exact⟨es,clock,hb,F,by rwa[MM,length_read]at hs,rfl⟩
def dV.lt(h:dV B w b M):b<w:=by obtain⟨D,h,_⟩:=h;exact h.lt
def dV.kept{row:Option Nat}(h:dV B w b M)(hg:w.grownBy w' row)(hne:row≠some b):dV B w' b M:=by
 obtain⟨D,h,hd⟩:=h;exact⟨D,h.kept hg (fun e=>hne e.symm),hd⟩
def dV.below(h:dV B w b M)(hb:cI w w'):dV B w' b M:=h.kept (row:=none) ⟨hb.os,hb.tape,hb.output,hb.size,fun k hk _=>hb.block k hk⟩ (by simp)
def dV.made(B:Nat)(w:World):dV B (w.alloc (.map #[] 0)) w (fun _=>none):=.of (World.ownsMap_made w _ _ _) (.start B)
def dV.tT(h:dV B w b M)(off:Nat)(p:Option Nat):w.cell? ⟨b,off,p⟩=none:=by
 obtain⟨D,⟨es,clock,hb,_⟩,_⟩:=h;simp[World.cell?,hb]
def dV.small(h:dV B w b M){i:Int}(hi:(M i).isSome=true):0≤i∧i< (B:Int):=by obtain⟨D,_,hd⟩:=h;exact hd.small i hi
def dV.drew(h:dV B w b M):dV B w.drew b M:=h
end
def ij{w w':World}(hb:cI w w')(row:Option Nat):w.grownBy w' row:=⟨hb.os,hb.tape,hb.output,hb.size,fun k hk _=>hb.block k hk⟩
structure My (t e:TypeId) (z:Value):Prop where
 under:prog.underlying t=some (.map 3 e)
 zero:∀w,(zeroValue e).run prog w= .ok z w
section
variable {w:World} {b B:Nat} {M:Int → Option Value} {t e:TypeId} {z:Value}
def dV.lE(h:dV B w b M)(hT:My t e z){i:Int}(hi:(Lit.int .i64 i).wf=true) :
  (Instr.lookup t (.map (some b)) (.int .i64 i) true).run prog w= .ok (.tuple #[(M i).getD z,.bool (M i).isSome]) w:=by
 obtain⟨D,c,hd⟩:=h;obtain⟨v,ps,a,hv⟩:=c.look_ok wO hT.under (hT.zero w) (zd:=.held z) (zp:=[]) rfl (rQ hi);obtain rfl:v=(M i).getD z:=by
  rw[hd.at_]at hv;simp only[BO,dB,iP,zg]at hv;exact hv.1
 rw[hd.has_]at a;exact a
def dV.mM(h:dV B w b M)(hT:My t e z){i:Int}(hi:(Lit.int .i64 i).wf=true) :
  (Instr.lookup t (.map (some b)) (.int .i64 i) false).run prog w= .ok ((M i).getD z) w:=by
 obtain⟨D,c,hd⟩:=h;obtain⟨v,ps,a,hv⟩:=c.lookup wO hT.under (hT.zero w) (zd:=.held z) (zp:=[]) rfl (rQ hi);obtain rfl:v=(M i).getD z:=by
  rw[hd.at_]at hv;simp only[BO,dB,iP,zg]at hv;exact hv.1
 exact a
def dV.nj(h:dV B w b M)(hT:My t e z)(hB:B<1000){i:Int}(h0:0≤i)(h1:i< (B:Int))(u:Value) :
  ∃w',(Instr.mapUpdate t (.map (some b)) (.int .i64 i) u).run prog w= .ok () w'∧dV B w' b (fun j=>if j=i then some u else M j)∧w.grownBy w' (some b):=by
 obtain⟨D,a,hd⟩:=h;obtain⟨w',c,r1,r2⟩:=a.update wO hT.under (by unfold maxLen;omega) (rQ (lW h0 (by omega))) (val:=u) (d:=.held u) (ps:=[]) rfl;exact⟨w',c,.of r1 (hd.put a.isMap h0 h1 u),r2⟩
def dV.tP(h:dV B w b M)(hT:My t e z)(ty:TypeId){i:Int}(hi:(Lit.int .i64 i).wf=true) :
  ∃w',(Builtin.delete_ #[t,3] ty #[.map (some b),i]).run prog w= .ok (.tuple #[]) w'∧dV B w' b (fun j=>if j=i then none else M j)∧w.grownBy w' (some b):=by
 obtain⟨D,c,hd⟩:=h;obtain⟨w',a,r1,r2⟩:=c.drop wO hT.under (rQ hi) ty;exact⟨w',a,.of r1 (hd.del i),r2.grown⟩
end
end Go.Proofs.YtehimhbgakpenaaGreat.Fd
