/- Lemmas. -/
import Derived.Deep.RegionHeld3
import Derived.StillTail
import Derived.Test.YtehimhbgakpenaaGreatA
set_option linter.all false
set_option maxRecDepth 100000
set_option maxHeartbeats 16000000
namespace Go.Proofs.YtehimhbgakpenaaGreat
open Go.RowKit
section
variable {P:Program} {ops:Array Oper} {Q:Exit → Act → World → Prop} {md:Region.Mode} {S:World → Prop} {Z:List Nat}
def lJ(P:Program)(md:Region.Mode)(ops:Array Oper)(Q:Exit→Act→World→Prop)(S:World→Prop)(Z:List Nat):Nat→Array Bool→Act→World→Prop
 |0,listed,a,w=>Region.ready md ops listed= []∧Q .normal a w
 |k+1,listed,a,w=>(Region.ready md ops listed= []→Q .normal a w) ∧
     ∀j∈Region.ready md ops listed,wpOp P ops Q j (fun a' w'=>(j∉Z→S w→S w')∧lJ P md ops Q S Z k (listed.setIfInBounds j true) a' w') a w
def GB:∀(k:Nat) (listed:Array Bool) (a:Act) (w:World),lJ P md ops Q S Z k listed a w→wpAny P md ops Q k listed a w
 |0,_,_,_,h=>h
 |k+1,_,_,_,h=>⟨h.1,fun j hj=>wpOp_mono (fun a' w' h'=>GB k _ a' w' h'.2) (h.2 j hj)⟩
def xK{i j:Nat}{a:Array Bool}(hi:i∈Region.ready md ops a)(hw:Region.waitsFor md ops j i=true):j∉Region.ready md ops a:=fun hj=>by
 obtain⟨oj,ho,e,he,hb,d⟩:=Region.waitsFor_spec hw;obtain⟨_,f,b,c⟩:=Zu.1 hj;rw[ho]at b;injection b with b
 subst b;have h1:=c e he hb;have h0:=(Zu.1 hi).1;rw[d]at h1
 by_cases hlt:i<a.size
 ·simp[hlt]at h0 h1;rw[h0]at h1;cases h1
 ·simp[Array.getElem?_eq_none (Nat.le_of_not_lt hlt)]at h1
def AJ{i:Nat}{oi:Oper}{v:Value}(hi:ops[i]?=some oi)(f:Region.noSelect ops=true)(hQ:∀c a w,Q (.panic c) (a.put oi.dst v) w→Q (.panic c) a w)(hZ:∀z∈Z,Region.waitsFor md ops z i=true) :
  ∀(k:Nat) (d:Array Bool) (a:Act) (w:World),(∀j oj,ops[j]?=some oj→j≠i→d.getD j true=false→(∀e∈oj.after,Region.binds md e=true→e.on≠i)→oi.apart ops oj=true) →
    i∈Region.ready md ops d→YieldsIf P ops S oi v a→S w→lJ P md ops Q S Z k (d.setIfInBounds i true) (a.put oi.dst v) w→lJ P md ops Q S Z (k+1) d a w
 |0,d,a,w,_,hr,hy,hS,H=>by
   refine⟨fun h=>(by rw[h]at hr;cases hr),fun j hj=>?_⟩
   by_cases hji:j=i
   ·subst hji;exact hy.wpOp hi hS ⟨fun _ _=>hS,H⟩
   ·have:=Bz hj hji;rw[H.1]at this;cases this
 |k+1,d,a,w,hf,hr,hy,hS,H=>by
   refine⟨fun h=>(by rw[h]at hr;cases hr),fun j hj=>?_⟩
   by_cases hji:j=i
   ·subst hji;exact hy.wpOp hi hS ⟨fun _ _=>hS,H⟩
   ·obtain⟨l,oj,g,u⟩:=Zu.1 hj;have t:j∉Z:=fun h=>xK hr (hZ j h) hj
    have p:∀e∈oj.after,Region.binds md e=true→e.on≠i:=fun e he hb o=>by
     refine xK (j:=j) hr ?_ hj;unfold Region.waitsFor;rw[g];exact ZT.2 ⟨e,he,by simp[hb,o]⟩
    have step:=wpOp_putIf g (hf j oj g hji l p) (fun cs b=>sG f i oi cs b hi) (fun cs b=>sG f j oj cs b g) hQ hy (H.2 j (Bz hj hji));refine wpOp_mono (fun a' w' h=>?_) step;have n:=h.2.1 t hS;refine⟨fun _ _=>n,AJ hi f hQ hZ k _ a' w' (fun m om hm s r q=>?_) (Bz hr (fun e=>hji e.symm)) h.1 n ?_⟩
    ·refine hf m om hm s ?_ q
     by_cases hjm:j=m
     ·subst hjm;exact l
     ·rwa[getD_set_ne true hjm]at r
    ·rw[W4 _ _ hji];exact h.2.2
def yM{i:Nat}{oi:Oper}{v:Value}(hi:ops[i]?=some oi)(f:Region.noSelect ops=true)(hQ:∀c a w,Q (.panic c) (a.put oi.dst v) w→Q (.panic c) a w) :
  ∀(k:Nat) (d:Array Bool) (a:Act) (w:World),(∀j oj,ops[j]?=some oj→j≠i→d.getD j true=false→(∀e∈oj.after,Region.binds md e=true→e.on≠i)→oi.apart ops oj=true) →
    i∈Region.ready md ops d→YieldsIf P ops (fun _=>True) oi v a→lJ P md ops Q S Z k (d.setIfInBounds i true) (a.put oi.dst v) w→lJ P md ops Q S Z (k+1) d a w
 |0,d,a,w,_,hr,hy,H=>by
   refine⟨fun h=>(by rw[h]at hr;cases hr),fun j hj=>?_⟩
   by_cases hji:j=i
   ·subst hji;exact hy.wpOp hi trivial ⟨fun _ h=>h,H⟩
   ·have:=Bz hj hji;rw[H.1]at this;cases this
 |k+1,d,a,w,hf,hr,hy,H=>by
   refine⟨fun h=>(by rw[h]at hr;cases hr),fun j hj=>?_⟩
   by_cases hji:j=i
   ·subst hji;exact hy.wpOp hi trivial ⟨fun _ h=>h,H⟩
   ·obtain⟨l,oj,g,s⟩:=Zu.1 hj;have o:∀e∈oj.after,Region.binds md e=true→e.on≠i:=fun e he hb n=>by
     refine xK (j:=j) hr ?_ hj;unfold Region.waitsFor;rw[g];exact ZT.2 ⟨e,he,by simp[hb,n]⟩
    have step:=wpOp_putIf g (hf j oj g hji l o) (fun cs b=>sG f i oi cs b hi) (fun cs b=>sG f j oj cs b g) hQ hy (H.2 j (Bz hj hji));refine wpOp_mono (fun a' w' h=>?_) step;refine⟨h.2.1,yM hi f hQ k _ a' w' (fun m om hm r q p=>?_) (Bz hr (fun e=>hji e.symm)) h.1 ?_⟩
    ·refine hf m om hm r ?_ p
     by_cases hjm:j=m
     ·subst hjm;exact l
     ·rwa[getD_set_ne true hjm]at q
    ·rw[W4 _ _ hji];exact h.2.2
def Xr{i:Nat}{oi:Oper}{v:Value}{k:Nat}{b:Array Bool}{a:Act}{w:World}(d:Option Tmp)(hi:ops[i]?=some oi)(hd:oi.dst=d)(hs:Region.noSelect ops=true)(hf:Region.free md ops b i=true)(hr:(Region.ready md ops b).contains i=true)
  (hQ:∀c a w,Q (.panic c) (a.put d v) w→Q (.panic c) a w) (hy:YieldsIf P ops (fun _=>True) oi v a)
  (h:lJ P md ops Q S Z k (b.setIfInBounds i true) (a.put d v) w):lJ P md ops Q S Z (k+1) b a w:=by
 subst hd;exact yM hi hs hQ k b a w (Region.free_spec hi hf) (by simpa using hr) hy h
def Uq{i:Nat}{oi:Oper}{v:Value}{k:Nat}{b:Array Bool}{a:Act}{w:World}(d:Option Tmp)(hi:ops[i]?=some oi)(hd:oi.dst=d)(hs:Region.noSelect ops=true)(hf:Region.free md ops b i=true)(hr:(Region.ready md ops b).contains i=true)
  (hZ:(Z.all fun z=>Region.waitsFor md ops z i)=true) (hQ:∀c a w,Q (.panic c) (a.put d v) w→Q (.panic c) a w) (hy:YieldsIf P ops S oi v a) (hS:S w)
  (h:lJ P md ops Q S Z k (b.setIfInBounds i true) (a.put d v) w):lJ P md ops Q S Z (k+1) b a w:=by
 subst hd;exact AJ hi hs hQ (fun z hz=>rj.1 hZ z hz) k b a w (Region.free_spec hi hf) (by simpa using hr) hy hS h
def Eo(P:Program)(md:Region.Mode)(ops:Array Oper)(Q:Exit→Act→World→Prop)(S:World→Prop)(Z:List Nat)(k:Nat)(listed:Array Bool)(a:Act)(w:World)(rs:List Nat):Prop :=
 ∀j∈rs,wpOp P ops Q j (fun a' w'=>(j∉Z→S w→S w')∧lJ P md ops Q S Z k (listed.setIfInBounds j true) a' w') a w
def mQ{k:Nat}{listed:Array Bool}{a:Act}{w:World}:Eo P md ops Q S Z k listed a w []:=fun _ h=>by cases h
def iK{k:Nat}{b:Array Bool}{a:Act}{w:World}{i:Nat}{o:Oper}{rs:List Nat}(ho:ops[i]?=some o)
  (h:∀K':Act→World→Prop,Shut (∀a w,(i∉Z→S w)→((i∉Z→S w)→lJ P md ops Q S Z k (b.setIfInBounds i true) a w)→K' a w)→if Region.wanted o (yielded ops a.tmps)=true then Oper.wp P o a w K' Q else K' (a.put o.dst undef) w)
  (hs:Eo P md ops Q S Z k b a w rs):Eo P md ops Q S Z k b a w (i :: rs):=fun j hj=>by
 rcases dA.1 hj with rfl|hj
 ·exact wpOp_step ho (fun K' hK=>h K' (fun a w hS hW=>hK a w ⟨fun hz _=>hS hz,hW hS⟩))
 ·exact hs j hj
def mV{rs:List Nat}{k:Nat}{listed:Array Bool}{a:Act}{w:World}(hr:Region.ready md ops listed=rs)(hne:rs≠ [])
  (h:Eo P md ops Q S Z k listed a w rs):lJ P md ops Q S Z (k+1) listed a w:=⟨fun h0=>absurd (hr▸h0) hne,hr▸h⟩
def Mr{listed:Array Bool}{a:Act}{w:World}(hr:Region.ready md ops listed= [])(h:Q .normal a w):∀k,lJ P md ops Q S Z k listed a w
 |0=>⟨hr,h⟩
 |_+1=>⟨fun _=>h,by rw[hr];simp⟩
def EE{id:Nat}{a:Act}{w:World}(Z:List Nat)(hm:P.follows .mixedOrders=true)(hS:S w.drew)
  (h:S w.drew→lJ P .any ops Q S Z ops.size (Array.replicate ops.size false) a w.drew):(Code.region id ops true).wp P Q a w :=
 wp_region_any hm (GB _ _ _ _ (h hS))
end
section
variable {P:Program} {ops:Array Oper} {Q:Exit → Act → World → Prop} {md:Region.Mode} {S:World → Prop} {Z:List Nat} {oi:Oper} {v:Value} {k:Nat} {listed:Array Bool} {a a':Act} {w:World}
def rC(l:cH)(f:List Deferred)(d:Nat)(v:Value):Act.put ⟨l.toArray,f⟩ (some d) v=⟨(l.set d v).toArray,f⟩:=by simp[Act.put]
def tU(i d:Nat)(h:lJ P md ops Q S Z k (listed.setIfInBounds i true) a' w)(hi:ops[i]?=some oi:=by exact rfl)(hd:oi.dst=some d:=by exact rfl)(hs:Region.noSelect ops=true:=by as_aux_lemma=>kernel_rfl)(hf:Region.free md ops listed i=true:=by as_aux_lemma=>kernel_rfl)(hr:(Region.ready md ops listed).contains i=true:=by as_aux_lemma=>kernel_rfl)
  (hQ:∀c a w,Q (.panic c) (a.put (some d) v) w→Q (.panic c) a w:=by exact fun _ _ _ h=>h) (hy:YieldsIf P ops (fun _=>True) oi v a:=by(refine Or.inl ⟨by rfl,?_⟩;intro w b;go_simp;(try with_reducible rfl)))
  (he:a.put (some d) v=a':=by(apply Cd (rC _ _ _ _);dsimp only[List.set_cons_succ,List.set_cons_zero]<;>exact rfl)):lJ P md ops Q S Z (k+1) listed a w:=by
 subst he;exact Xr (some d) hi hd hs hf hr hQ hy h
def tZ(i d:Nat)(h:lJ P md ops Q S Z k (listed.setIfInBounds i true) a' w)(hi:ops[i]?=some oi:=by exact rfl)(hd:oi.dst=some d:=by exact rfl)(hs:Region.noSelect ops=true:=by as_aux_lemma=>kernel_rfl)(hf:Region.free md ops listed i=true:=by as_aux_lemma=>kernel_rfl)(hr:(Region.ready md ops listed).contains i=true:=by as_aux_lemma=>kernel_rfl)
  (hZ:(Z.all fun z=>Region.waitsFor md ops z i)=true:=by as_aux_lemma=>kernel_rfl) (hQ:∀c a w,Q (.panic c) (a.put (some d) v) w→Q (.panic c) a w:=by exact fun _ _ _ h=>h) (hy:YieldsIf P ops S oi v a:=by(refine Or.inl ⟨by rfl,?_⟩;intro w b;(try dsimp only at b);go_simp;(try with_reducible rfl))) (hS:S w:=by assumption)
  (he:a.put (some d) v=a':=by(apply Cd (rC _ _ _ _);dsimp only[List.set_cons_succ,List.set_cons_zero]<;>exact rfl)):lJ P md ops Q S Z (k+1) listed a w:=by
 subst he;exact Uq (some d) hi hd hs hf hr hZ hQ hy hS h
def tF(i d:Nat)(h:wpAnyH P md ops Q S k (listed.setIfInBounds i true) a' w)(hi:ops[i]?=some oi:=by exact rfl)(hd:oi.dst=some d:=by exact rfl)(hs:Region.noSelect ops=true:=by as_aux_lemma=>kernel_rfl)(hf:Region.free md ops listed i=true:=by as_aux_lemma=>kernel_rfl)(hr:(Region.ready md ops listed).contains i=true:=by as_aux_lemma=>kernel_rfl)
  (hQ:∀c a w,Q (.panic c) (a.put (some d) v) w→Q (.panic c) a w:=by exact fun _ _ _ h=>h) (hy:YieldsIf P ops S oi v a:=by(refine Or.inl ⟨by rfl,?_⟩;intro w b;(try dsimp only at b);go_simp;(try with_reducible rfl))) (hS:S w:=by assumption)
  (he:a.put (some d) v=a':=by(apply Cd (rC _ _ _ _);dsimp only[List.set_cons_succ,List.set_cons_zero]<;>exact rfl)):wpAnyH P md ops Q S (k+1) listed a w:=by
 subst he;rw[←hd]at hQ h;exact wpAnyH_take hi hs hf hr hQ hy hS h
def rZ(i:Nat)(h:∀K':Act→World→Prop,Shut (∀a w,(i∉Z→S w)→((i∉Z→S w)→lJ P md ops Q S Z k (listed.setIfInBounds i true) a w)→K' a w)→if Region.wanted oi (yielded ops a.tmps)=true then Oper.wp P oi a w K' Q else K' (a.put oi.dst undef) w)
  (hi:ops[i]?=some oi:=by exact rfl) (hr:Region.ready md ops listed= [i]:=by as_aux_lemma=>kernel_rfl):lJ P md ops Q S Z (k+1) listed a w:=mV hr (by simp) (iK hi h mQ)
def rF(i:Nat)(h:∀K':Act→World→Prop,Shut (∀a w,S w→(S w→wpAnyH P md ops Q S k (listed.setIfInBounds i true) a w)→K' a w)→if Region.wanted oi (yielded ops a.tmps)=true then Oper.wp P oi a w K' Q else K' (a.put oi.dst undef) w)
  (hi:ops[i]?=some oi:=by exact rfl) (hr:Region.ready md ops listed= [i]:=by as_aux_lemma=>kernel_rfl):wpAnyH P md ops Q S (k+1) listed a w:=wpAnyH_ready hr (by simp) (AllReadyH.cons hi h AllReadyH.nil)
end
section
variable {P:Program} {ops:Array Oper} {Q:Exit → Act → World → Prop} {md:Region.Mode} {S:World → Prop} {Z:List Nat} {k id i:Nat} {listed:Array Bool} {a:Act} {w:World} {K R:Act → World → Prop}
def dZ(h:Q .normal a w)(hr:Region.ready md ops listed= []:=by kernel_rfl):lJ P md ops (NoPanic Q) S Z k listed a w:=Mr hr (NoPanic.normal h) k
def dF(h:Q .normal a w)(hr:Region.ready md ops listed= []:=by kernel_rfl):wpAnyH P md ops (NoPanic Q) S k listed a w:=wpAnyH_done hr (NoPanic.normal h) k
def gZ(Z:List Nat)(hS:S w.drew)(h:S w.drew→lJ P .any ops (NoPanic Q) S Z ops.size (Array.replicate ops.size false) a w.drew)(hm:P.follows .mixedOrders=true:=by kernel_rfl):(Code.region id ops true).wp P Q a w:=wp_region_noPanic (EE Z hm hS h)
def gF(hS:S w.drew)(h:S w.drew→wpAnyH P .any ops (NoPanic Q) S ops.size (Array.replicate ops.size false) a w.drew)(hm:P.follows .mixedOrders=true:=by kernel_rfl):(Code.region id ops true).wp P Q a w:=wp_region_noPanic (wp_region_held_drew hm hS h)
def zZ(hK:Shut (∀a w,(i∉Z→S w)→((i∉Z→S w)→R a w)→K a w))(h:R a w)(hi:i∈Z:=by decide):K a w:=hK.out a w (fun h=>absurd hi h) (fun _=>h)
end
def nx:List Bool→Nat→Nat
 |true :: l,k=>nx l (k+1)
 |_,k=>k
section
variable {P:Program} {ops:Array Oper} {Q:Exit → Act → World → Prop} {md:Region.Mode} {S:World → Prop} {Z:List Nat} {oi:Oper} {v:Value} {i d k:Nat} {listed:Array Bool} {a a':Act} {w:World}
def tA(h:wpAnyH P md ops Q S k (listed.setIfInBounds i true) a' w)(hn:nx listed.toList 0=i:=by conv=>lhs;whnf)(hi:ops[i]?=some oi:=by exact rfl)(hd:oi.dst=some d:=by exact rfl)(hs:Region.noSelect ops=true:=by as_aux_lemma=>kernel_rfl)(hf:Region.free md ops listed i=true:=by as_aux_lemma=>kernel_rfl)(hr:(Region.ready md ops listed).contains i=true:=by as_aux_lemma=>kernel_rfl)(hQ:∀c a w,Q (.panic c) (a.put (some d) v) w→Q (.panic c) a w:=by exact fun _ _ _ h=>h)(hy:YieldsIf P ops S oi v a:=by(refine Or.inl ⟨by rfl,?_⟩;intro w hSw;(try dsimp only at hSw);go_simp;(try with_reducible rfl)))(hS:S w:=by assumption)(he:a.put (some d) v=a':=by(apply Cd (rC _ _ _ _);dsimp only[List.set_cons_succ,List.set_cons_zero]<;>exact rfl)):wpAnyH P md ops Q S (k+1) listed a w:=tF i d h hi hd hs hf hr hQ hy hS he
def uA(h:lJ P md ops Q S Z k (listed.setIfInBounds i true) a' w)(hn:nx listed.toList 0=i:=by conv=>lhs;whnf)(hi:ops[i]?=some oi:=by exact rfl)(hd:oi.dst=some d:=by exact rfl)(hs:Region.noSelect ops=true:=by as_aux_lemma=>kernel_rfl)(hf:Region.free md ops listed i=true:=by as_aux_lemma=>kernel_rfl)(hr:(Region.ready md ops listed).contains i=true:=by as_aux_lemma=>kernel_rfl)(hQ:∀c a w,Q (.panic c) (a.put (some d) v) w→Q (.panic c) a w:=by exact fun _ _ _ h=>h)(hy:YieldsIf P ops (fun _=>True) oi v a:=by(refine Or.inl ⟨by rfl,?_⟩;intro w hSw;go_simp;(try with_reducible rfl)))(he:a.put (some d) v=a':=by(apply Cd (rC _ _ _ _);dsimp only[List.set_cons_succ,List.set_cons_zero]<;>exact rfl)):lJ P md ops Q S Z (k+1) listed a w:=tU i d h hi hd hs hf hr hQ hy he
def zA(h:lJ P md ops Q S Z k (listed.setIfInBounds i true) a' w)(hn:nx listed.toList 0=i:=by conv=>lhs;whnf)(hi:ops[i]?=some oi:=by exact rfl)(hd:oi.dst=some d:=by exact rfl)(hs:Region.noSelect ops=true:=by as_aux_lemma=>kernel_rfl)(hf:Region.free md ops listed i=true:=by as_aux_lemma=>kernel_rfl)(hr:(Region.ready md ops listed).contains i=true:=by as_aux_lemma=>kernel_rfl)(hZ:(Z.all fun z=>Region.waitsFor md ops z i)=true:=by as_aux_lemma=>kernel_rfl)(hQ:∀c a w,Q (.panic c) (a.put (some d) v) w→Q (.panic c) a w:=by exact fun _ _ _ h=>h)(hy:YieldsIf P ops S oi v a:=by(refine Or.inl ⟨by rfl,?_⟩;intro w hSw;(try dsimp only at hSw);go_simp;(try with_reducible rfl)))(hS:S w:=by assumption)(he:a.put (some d) v=a':=by(apply Cd (rC _ _ _ _);dsimp only[List.set_cons_succ,List.set_cons_zero]<;>exact rfl)):lJ P md ops Q S Z (k+1) listed a w:=tZ i d h hi hd hs hf hr hZ hQ hy hS he
def tV(i d:Nat)(v:Value)(h:wpAnyH P md ops Q S k (listed.setIfInBounds i true) a' w)(hi:ops[i]?=some oi:=by exact rfl)(hd:oi.dst=some d:=by exact rfl)(hs:Region.noSelect ops=true:=by as_aux_lemma=>kernel_rfl)(hf:Region.free md ops listed i=true:=by as_aux_lemma=>kernel_rfl)(hr:(Region.ready md ops listed).contains i=true:=by as_aux_lemma=>kernel_rfl)(hQ:∀c a w,Q (.panic c) (a.put (some d) v) w→Q (.panic c) a w:=by exact fun _ _ _ h=>h)(hy:YieldsIf P ops S oi v a:=by exact Or.inl ⟨by rfl,fun _ _=>rfl⟩)(hS:S w:=by assumption)(he:a.put (some d) v=a':=by(apply Cd (rC _ _ _ _);dsimp only[List.set_cons_succ,List.set_cons_zero]<;>exact rfl)):wpAnyH P md ops Q S (k+1) listed a w:=tF i d h hi hd hs hf hr hQ hy hS he
end
end Go.Proofs.YtehimhbgakpenaaGreat
