/-
  The texts SpA2, OrdZ, SpO, SpR, SpT, one after the other.
-/
import Derived.Test.YtehimhbgakpenaaGreatQPWith40
import Derived.Test.YtehimhbgakpenaaGreatQPWith0
import Derived.Deep.RegionHeld3
import Derived.StillTail
import Derived.Test.YtehimhbgakpenaaGreatQPWith44
import Derived.Test.YtehimhbgakpenaaGreatQPWith31
namespace Go.Proofs.YtehimhbgakpenaaGreat
set_option linter.unusedVariables false
set_option linter.unusedSimpArgs false
open Go.RowKit Go.Maps Go.Sort
def MutS (T:TypeId):Prop:=T = 148 ∨ T = 91 ∨ T = 31 ∨ T = 3 ∨ T = 85
def MutZ (w:World) (k:Nat):Prop:=IsMp w k ∨ ∃ T,MutS T ∧ Ty w k T
structure Ef2 (E:Nat → Prop) (w w':World):Prop where
 os:w'.os = w.os
 tape:w'.tape = w.tape
 output:w'.output = w.output
 size:w.heap.size ≤ w'.heap.size
 block:∀ k,k < w.heap.size → w'.heap[k]? = w.heap[k]? ∨ (E k ∧ MutZ w k)
section
variable {E E':Nat → Prop} {w w' w'':World}
theorem Ef2.cells {b:Nat} {T:TypeId} (hg:w.grownBy w' (some b)) (ht:Ty w b T) (hT:MutS T) (hE:E b):Ef2 E w w':=by
 refine ⟨hg.os,hg.tape,hg.output,hg.size,fun k hk=>?_⟩
 by_cases e:k = b
 ·subst e; exact .inr ⟨hE,.inr ⟨T,hT,ht⟩⟩
 ·exact .inl (hg.block k hk (fun e2=>e (by injection e2)))
theorem Ef2.off (h:Ef2 E w w') {k:Nat} (hk:k < w.heap.size) (hn:¬ E k):w'.heap[k]? = w.heap[k]?:=by
 rcases h.block k hk with e | e
 ·exact e
 ·exact absurd e.1 hn
theorem Ef2.typed (h:Ef2 E w w') {k:Nat} {T:TypeId} (ht:Ty w k T) (hT:¬ MutS T):w'.heap[k]? = w.heap[k]?:=by
 rcases h.block k (ty_lt ht) with e | ⟨_,e⟩
 ·exact e
 ·rcases e with e | ⟨T',hT',e⟩
  ·exact (ty_mp ht e).elim
  ·rw [ty_ty ht e] at hT; exact absurd hT' hT
theorem Ef2.tyk (h:Ef2 E w w') {k:Nat} {T:TypeId} (ht:Ty w k T) (hT:¬ MutS T):Ty w' k T:=by
 have e:=h.typed ht hT
 obtain ⟨cur,fr,e2⟩:=ht
 exact ⟨cur,fr,e.trans e2⟩
theorem Ef2.box (h:Ef2 E w w') {g:Nat} {cs:List Value} (hb:Box w g cs) (hn:¬ E g):Box w' g cs:=fun i u hu=>by
 obtain ⟨h1,h2⟩:=hb i u hu
 have e:=h.off (World.block_lt_of_cell? _ _ h1) hn
 exact ⟨(World.cell?_of_block (a:=⟨g,i,none⟩) e).trans h1,(World.frozen?_of_block (a:=⟨g,i,none⟩) e).trans h2⟩
theorem Ef2.cell (h:Ef2 E w w') {g j:Nat} {v:Value} (hc:w.cell? ⟨g,j,none⟩ = some v) (hn:¬ E g):w'.cell? ⟨g,j,none⟩ = some v :=
 (World.cell?_of_block (a:=⟨g,j,none⟩) (h.off (World.block_lt_of_cell? _ _ hc) hn)).trans hc
theorem Ef2.rd (h:Ef2 E w w') {A:Option Addr} {xs:List Value} {n:Nat} {T:TypeId} (hr:Rd w A xs) (ht:Fd.TyF w A n T) (hn:0 < xs.length → 0 < n) (hT:¬ MutS T):Rd w' A xs:=by
 intro hx
 obtain ⟨ad,e,hc⟩:=hr hx
 have htk:Ty w ad.block T:=ht (hn hx) ad e
 refine ⟨ad,e,fun j u hu=>?_⟩
 have e2:w'.heap[(ad.add j).block]? = w.heap[(ad.add j).block]?:=by rw [addr_add_block]; exact h.typed htk hT
 rw [World.cell?_of_block e2]
 exact hc j u hu
theorem Ef2.tyf (h:Ef2 E w w') {A:Option Addr} {n:Nat} {T:TypeId} (ht:Fd.TyF w A n T) (hT:¬ MutS T):Fd.TyF w' A n T:=fun hn ad ha=>h.tyk (ht hn ad ha) hT
theorem Ef2.own (h:Ef2 E w w') {base:Nat} {T:TypeId} {size:Nat} {v:Value} {n:Nat} {xs:List Value} (ho:w.ownsRow base T size v n xs) (hT:¬ MutS T):w'.ownsRow base T size v n xs:=by
 refine ⟨ho.1,?_⟩
 rcases ho.2 with e | ⟨k,cap,cur,rfl,hgb,hh,r⟩
 ·exact .inl e
 ·exact .inr ⟨k,cap,cur,rfl,hgb,(h.typed ⟨_,_,hh⟩ hT).trans hh,r⟩
theorem Ef2.ownE (h:Ef2 E w w') {base:Nat} {T:TypeId} {size:Nat} {v:Value} {n:Nat} {xs:List Value} (ho:w.ownsRow base T size v n xs) (hn:∀ k,v.ownBlock = some k → ¬ E k):w'.ownsRow base T size v n xs:=by
 refine ⟨ho.1,?_⟩
 rcases ho.2 with e | ⟨k,cap,cur,rfl,hgb,hh,r⟩
 ·exact .inl e
 ·exact .inr ⟨k,cap,cur,rfl,hgb,(h.off (ho.lt k rfl).2 (hn k rfl)).trans hh,r⟩
theorem adj_im2:¬ MutS 169:=by unfold MutS; decide
theorem pfx_im2:¬ MutS 181:=by unfold MutS; decide
theorem Ef2.la (h:Ef2 E w w') {x:La} {A:Option Addr} {c:Nat} {B:Option Addr} {d:Nat} (hl:Fd.LaTf w x A c B d):Fd.LaTf w' x A c B d:=by
 obtain ⟨⟨A',c',B',d',e,r1,r2,r3⟩,t1,t2⟩:=hl
 simp only [laV,Value.agg.injEq,Array.mk.injEq,List.cons.injEq,Value.slice.injEq,true_and,and_true] at e
 obtain ⟨⟨rfl,rfl⟩,rfl,rfl⟩:=e
 exact ⟨⟨_,_,_,_,rfl,h.rd r1 t1 (by rw [adV_len]; omega) adj_im2,h.rd r2 t2 (by rw [pfV_len]; omega) pfx_im2,r3⟩,h.tyf t1 adj_im2,h.tyf t2 pfx_im2⟩
theorem Ef2.el0 (h:Ef2 E w w') {v:Option Value} {x:Option Hd} (he:ElAt w v x):ElAt w' v x:=by
 match v,x,he with
 | none,none,_=>trivial
 | some v,some x,⟨A,c1,B,d,e,hl⟩=>exact ⟨A,c1,B,d,e,h.la hl⟩
theorem Ef2.el (h:Ef2 E w w') {v:Option Value} {x:Option Fd.Hd} (he:Fd.ElAt w v x):Fd.ElAt w' v x:=by
 match v,x,he with
 | none,none,_=>trivial
 | some v,some x,⟨A,c1,B,d,e,hl⟩=>exact ⟨A,c1,B,d,e,h.la hl⟩
theorem Ef2.db (h:Ef2 E w w') {gd b:Nat} {N:Db} (hd:DbAt w gd b N) (h1:¬ E gd) (h2:¬ E b):DbAt w' gd b N:=by
 obtain ⟨⟨M,⟨D,⟨es,ck,hb,r⟩,hD⟩,he⟩,hcell⟩:=hd
 exact ⟨⟨M,⟨D,⟨es,ck,(h.off (Array.getElem?_eq_some_iff.1 hb).1 h2).trans hb,r⟩,hD⟩,fun i hi=>h.el0 (he i hi)⟩,h.cell hcell h1⟩
theorem Ef2.mpis (h:Ef2 E w w') {B b:Nat} {M:Int → Option Value} (hm:Fd.MapIs B w b M) (h2:¬ E b):Fd.MapIs B w' b M:=by
 obtain ⟨D,⟨es,ck,hb,r⟩,hD⟩:=hm
 exact ⟨D,⟨es,ck,(h.off (Array.getElem?_eq_some_iff.1 hb).1 h2).trans hb,r⟩,hD⟩
theorem Ef2.fl (h:Ef2 E w w') {gf b:Nat} {iv:Int} {N:Fd.Fn} {f:Nat → Nat} (hf:Fd.FlAt w gf b iv N f) (h1:¬ E gf) (h2:¬ E b) (h3:∀ i,i < 256 → (N i).isSome = true → ¬ E (f i)):Fd.FlAt w' gf b iv N f:=by
 refine ⟨h.cell hf.c0 h1,h.cell hf.c1 h1,h.mpis hf.nb h2,fun i hi D hD=>?_,hf.ne,hf.inj⟩
 obtain ⟨M,hm,he⟩:=hf.el i hi D hD
 exact ⟨M,h.mpis hm (h3 i hi (by rw [hD]; rfl)),fun o ho=>h.el (he o ho)⟩
theorem Ef2.og (h:Ef2 E w w') {go:Nat} {x:La} {mk:Bool} (ho:OrAt w go x mk) (ht:TyO w go) (h1:¬ E go):OrAt w' go x mk ∧ TyO w' go:=by
 obtain ⟨A,c,B,d,h0,r1,r2,h3,h4,h5,h6,h7,h8,h9⟩:=ho
 have t1:Fd.TyF w A x.adj.length 169:=fun hn ad ha=>ht.1 A _ c hn (h0.c 1 rfl) ad ha
 have t2:Fd.TyF w B x.pre.length 181:=fun hn ad ha=>ht.2 B _ d hn (h0.c 2 rfl) ad ha
 have e:=h.off (h0.lt (by simp)) h1
 exact ⟨⟨A,c,B,d,h.box h0 h1,h.rd r1 t1 (by rw [adV_len]; omega) adj_im2,h.rd r2 t2 (by rw [pfV_len]; omega) pfx_im2,h3,h4,h5,h6,h7,h8,h9⟩,
  ⟨fun A n c hn hc ad ha=>h.tyk (ht.1 A n c hn (by rw [← World.cell?_of_block (a:=⟨go,1,none⟩) e]; exact hc) ad ha) adj_im2,fun A n c hn hc ad ha=>h.tyk (ht.2 A n c hn (by rw [← World.cell?_of_block (a:=⟨go,2,none⟩) e]; exact hc) ad ha) pfx_im2⟩⟩
theorem Ef2.tp (h:Ef2 E w w') {T:TypeId} {A:Option Addr} {xs:List Value} {n:Nat} (hr:Rd w A xs) (ht:Fd.TyF w A n T) (hn:0 < xs.length → 0 < n) (hT:¬ MutS T):Rd w' A xs ∧ Fd.TyF w' A n T:=⟨h.rd hr ht hn hT,h.tyf ht hT⟩
end
theorem bool_im2:¬ MutS 4:=by unfold MutS; decide
theorem link_im2:¬ MutS 79:=by unfold MutS; decide
theorem spk_im2:¬ MutS 109:=by unfold MutS; decide
theorem port_im2:¬ MutS 118:=by unfold MutS; decide
theorem og_im2:¬ MutS 166:=by unfold MutS; decide
theorem SpAt.app {w w':World} {m:Sm} {S:Sp} {col:Nat → Nat} {c:Nat} (h:SpAt w m S col c) {k:Nat} {T:TypeId} (hg:w.grownBy w' (some k)) (ht:Ty w k T) (hT:MutS T) (h1:k ≠ m.gd) (h2:k ≠ m.gf):SpAt w' m S col c:=by
 have he:Ef2 (fun j=>j = k) w w':=Ef2.cells hg ht hT rfl
 have hty:∀ {j T'},Ty w j T' → ¬ MutS T' → ¬ j = k:=fun q1 q2 e=>by rw [e] at q1; rw [ty_ty ht q1] at hT; exact q2 hT
 have hmp:∀ {j},IsMp w j → ¬ j = k:=fun q1 e=>by rw [e] at q1; exact ty_mp ht q1
 obtain ⟨o1,o2⟩:=he.og h.og h.tO (hty h.ty og_im2)
 exact ⟨he.box h.bx (hty h.tg spk_im2),he.tyk h.tg spk_im2,he.ownE h.po (fun j hj=>hty (own_ty0 h.po hj) port_im2),he.tp h.rO.1 h.rO.2 (by rw [boV_len]; exact id) bool_im2,he.tp h.rL.1 h.rL.2 (by rw [lksV_len]; omega) link_im2,he.tp h.rB.1 h.rB.2 (by rw [pfV_len]; omega) pfx_im2,h.lB,h.lT,
  he.db h.db (fun e=>h1 e.symm) (hmp (db_mp h.db)),he.fl h.fl (fun e=>h2 e.symm) (hmp (fl_mp h.fl)) (fun i hi hs=>hmp (fl_mps h.fl hi hs)),o1,o2,he.tyk h.ty og_im2,h.cg,h.cP,h.co,h.cd,h.cf,h.cF,h.z,h.ne,h.c0⟩
end Go.Proofs.YtehimhbgakpenaaGreat

namespace Go.Proofs.YtehimhbgakpenaaGreat
set_option linter.unusedVariables false
set_option linter.unusedSimpArgs false
open Go.RowKit
section
variable {P:Program} {ops:Array Oper} {Q:Exit → Act → World → Prop} {md:Region.Mode} {S:World → Prop} {Z:List Nat}
def anyZ (P:Program) (md:Region.Mode) (ops:Array Oper) (Q:Exit → Act → World → Prop) (S:World → Prop) (Z:List Nat):Nat → Array Bool → Act → World → Prop
 | 0,listed,a,w=>Region.ready md ops listed = [] ∧ Q .normal a w
 | k + 1,listed,a,w=>(Region.ready md ops listed = [] → Q .normal a w) ∧
     ∀ j ∈ Region.ready md ops listed,wpOp P ops Q j (fun a' w'=>(j ∉ Z → S w → S w') ∧ anyZ P md ops Q S Z k (listed.setIfInBounds j true) a' w') a w
theorem any_of_Z:∀ (k:Nat) (listed:Array Bool) (a:Act) (w:World),anyZ P md ops Q S Z k listed a w → wpAny P md ops Q k listed a w
 | 0,_,_,_,h=>h
 | k + 1,_,_,_,h=>⟨h.1,fun j hj=>wpOp_mono (fun a' w' h'=>any_of_Z k _ a' w' h'.2) (h.2 j hj)⟩
theorem not_ready {i j:Nat} {listed:Array Bool} (hi:i ∈ Region.ready md ops listed) (hw:Region.waitsFor md ops j i = true):j ∉ Region.ready md ops listed:=fun hj=>by
 obtain ⟨oj,ho,e,he,hb,hon⟩:=Region.waitsFor_spec hw
 obtain ⟨_,oj',ho',hall⟩:=mem_ready.1 hj
 rw [ho] at ho'
 injection ho' with ho'
 subst ho'
 have h1:=hall e he hb
 have h0:=(mem_ready.1 hi).1
 rw [hon] at h1
 by_cases hlt:i < listed.size
 ·simp [hlt] at h0 h1; rw [h0] at h1; cases h1
 ·simp [Array.getElem?_eq_none (Nat.le_of_not_lt hlt)] at h1
theorem anyZ_front {i:Nat} {oi:Oper} {v:Value} (hi:ops[i]? = some oi) (hsel:Region.noSelect ops = true) (hQ:∀ c a w,Q (.panic c) (a.put oi.dst v) w → Q (.panic c) a w) (hZ:∀ z ∈ Z,Region.waitsFor md ops z i = true) :
  ∀ (k:Nat) (listed:Array Bool) (a:Act) (w:World),(∀ j oj,ops[j]? = some oj → j ≠ i → listed.getD j true = false → (∀ e ∈ oj.after,Region.binds md e = true → e.on ≠ i) → oi.apart ops oj = true) →
    i ∈ Region.ready md ops listed → YieldsIf P ops S oi v a → S w → anyZ P md ops Q S Z k (listed.setIfInBounds i true) (a.put oi.dst v) w → anyZ P md ops Q S Z (k + 1) listed a w
 | 0,listed,a,w,_,hr,hy,hS,H=>by
   refine ⟨fun h=>(by rw [h] at hr; cases hr),fun j hj=>?_⟩
   by_cases hji:j = i
   ·subst hji
    exact hy.wpOp hi hS ⟨fun _ _=>hS,H⟩
   ·have:=ready_mono hj hji
    rw [H.1] at this
    cases this
 | k + 1,listed,a,w,hf,hr,hy,hS,H=>by
   refine ⟨fun h=>(by rw [h] at hr; cases hr),fun j hj=>?_⟩
   by_cases hji:j = i
   ·subst hji
    exact hy.wpOp hi hS ⟨fun _ _=>hS,H⟩
   ·obtain ⟨hun,oj,hoj,hall⟩:=mem_ready.1 hj
    have hjZ:j ∉ Z:=fun h=>not_ready hr (hZ j h) hj
    have hno:∀ e ∈ oj.after,Region.binds md e = true → e.on ≠ i:=fun e he hb hon=>by
     refine not_ready (j:=j) hr ?_ hj
     unfold Region.waitsFor
     rw [hoj]
     exact Array.any_eq_true'.2 ⟨e,he,by simp [hb,hon]⟩
    have step:=wpOp_putIf hoj (hf j oj hoj hji hun hno) (fun cs b=>Region.noSelect_spec hsel i oi cs b hi) (fun cs b=>Region.noSelect_spec hsel j oj cs b hoj) hQ hy (H.2 j (ready_mono hj hji))
    refine wpOp_mono (fun a' w' h=>?_) step
    have hS':=h.2.1 hjZ hS
    refine ⟨fun _ _=>hS',anyZ_front hi hsel hQ hZ k _ a' w' (fun m om hm hmi hmu hmw=>?_) (ready_mono hr (fun e=>hji e.symm)) h.1 hS' ?_⟩
    ·refine hf m om hm hmi ?_ hmw
     by_cases hjm:j = m
     ·subst hjm; exact hun
     ·rwa [getD_set_ne true hjm] at hmu
    ·rw [Array.setIfInBounds_comm _ _ hji]
     exact h.2.2
theorem anyZ_frontU {i:Nat} {oi:Oper} {v:Value} (hi:ops[i]? = some oi) (hsel:Region.noSelect ops = true) (hQ:∀ c a w,Q (.panic c) (a.put oi.dst v) w → Q (.panic c) a w) :
  ∀ (k:Nat) (listed:Array Bool) (a:Act) (w:World),(∀ j oj,ops[j]? = some oj → j ≠ i → listed.getD j true = false → (∀ e ∈ oj.after,Region.binds md e = true → e.on ≠ i) → oi.apart ops oj = true) →
    i ∈ Region.ready md ops listed → YieldsIf P ops (fun _=>True) oi v a → anyZ P md ops Q S Z k (listed.setIfInBounds i true) (a.put oi.dst v) w → anyZ P md ops Q S Z (k + 1) listed a w
 | 0,listed,a,w,_,hr,hy,H=>by
   refine ⟨fun h=>(by rw [h] at hr; cases hr),fun j hj=>?_⟩
   by_cases hji:j = i
   ·subst hji
    exact hy.wpOp hi trivial ⟨fun _ h=>h,H⟩
   ·have:=ready_mono hj hji
    rw [H.1] at this
    cases this
 | k + 1,listed,a,w,hf,hr,hy,H=>by
   refine ⟨fun h=>(by rw [h] at hr; cases hr),fun j hj=>?_⟩
   by_cases hji:j = i
   ·subst hji
    exact hy.wpOp hi trivial ⟨fun _ h=>h,H⟩
   ·obtain ⟨hun,oj,hoj,hall⟩:=mem_ready.1 hj
    have hno:∀ e ∈ oj.after,Region.binds md e = true → e.on ≠ i:=fun e he hb hon=>by
     refine not_ready (j:=j) hr ?_ hj
     unfold Region.waitsFor
     rw [hoj]
     exact Array.any_eq_true'.2 ⟨e,he,by simp [hb,hon]⟩
    have step:=wpOp_putIf hoj (hf j oj hoj hji hun hno) (fun cs b=>Region.noSelect_spec hsel i oi cs b hi) (fun cs b=>Region.noSelect_spec hsel j oj cs b hoj) hQ hy (H.2 j (ready_mono hj hji))
    refine wpOp_mono (fun a' w' h=>?_) step
    refine ⟨h.2.1,anyZ_frontU hi hsel hQ k _ a' w' (fun m om hm hmi hmu hmw=>?_) (ready_mono hr (fun e=>hji e.symm)) h.1 ?_⟩
    ·refine hf m om hm hmi ?_ hmw
     by_cases hjm:j = m
     ·subst hjm; exact hun
     ·rwa [getD_set_ne true hjm] at hmu
    ·rw [Array.setIfInBounds_comm _ _ hji]
     exact h.2.2
theorem takeU {i:Nat} {oi:Oper} {v:Value} {k:Nat} {listed:Array Bool} {a:Act} {w:World} (d:Option Tmp) (hi:ops[i]? = some oi) (hd:oi.dst = d) (hs:Region.noSelect ops = true) (hf:Region.free md ops listed i = true) (hr:(Region.ready md ops listed).contains i = true)
  (hQ:∀ c a w,Q (.panic c) (a.put d v) w → Q (.panic c) a w) (hy:YieldsIf P ops (fun _=>True) oi v a)
  (h:anyZ P md ops Q S Z k (listed.setIfInBounds i true) (a.put d v) w):anyZ P md ops Q S Z (k + 1) listed a w:=by
 subst hd
 exact anyZ_frontU hi hs hQ k listed a w (Region.free_spec hi hf) (by simpa using hr) hy h
theorem takeZ {i:Nat} {oi:Oper} {v:Value} {k:Nat} {listed:Array Bool} {a:Act} {w:World} (d:Option Tmp) (hi:ops[i]? = some oi) (hd:oi.dst = d) (hs:Region.noSelect ops = true) (hf:Region.free md ops listed i = true) (hr:(Region.ready md ops listed).contains i = true)
  (hZ:(Z.all fun z=>Region.waitsFor md ops z i) = true) (hQ:∀ c a w,Q (.panic c) (a.put d v) w → Q (.panic c) a w) (hy:YieldsIf P ops S oi v a) (hS:S w)
  (h:anyZ P md ops Q S Z k (listed.setIfInBounds i true) (a.put d v) w):anyZ P md ops Q S Z (k + 1) listed a w:=by
 subst hd
 exact anyZ_front hi hs hQ (fun z hz=>List.all_eq_true.1 hZ z hz) k listed a w (Region.free_spec hi hf) (by simpa using hr) hy hS h
def ReadyZ (P:Program) (md:Region.Mode) (ops:Array Oper) (Q:Exit → Act → World → Prop) (S:World → Prop) (Z:List Nat) (k:Nat) (listed:Array Bool) (a:Act) (w:World) (rs:List Nat):Prop :=
 ∀ j ∈ rs,wpOp P ops Q j (fun a' w'=>(j ∉ Z → S w → S w') ∧ anyZ P md ops Q S Z k (listed.setIfInBounds j true) a' w') a w
theorem readyZ_nil {k:Nat} {listed:Array Bool} {a:Act} {w:World}:ReadyZ P md ops Q S Z k listed a w []:=fun _ h=>by cases h
theorem readyZ_cons {k:Nat} {listed:Array Bool} {a:Act} {w:World} {i:Nat} {o:Oper} {rs:List Nat} (ho:ops[i]? = some o)
  (h:∀ K':Act → World → Prop,Shut (∀ a w,(i ∉ Z → S w) → ((i ∉ Z → S w) → anyZ P md ops Q S Z k (listed.setIfInBounds i true) a w) → K' a w) → if Region.wanted o (yielded ops a.tmps) = true then Oper.wp P o a w K' Q else K' (a.put o.dst undef) w)
  (hs:ReadyZ P md ops Q S Z k listed a w rs):ReadyZ P md ops Q S Z k listed a w (i :: rs):=fun j hj=>by
 rcases List.mem_cons.1 hj with rfl | hj
 ·exact wpOp_step ho (fun K' hK=>h K' (fun a w hS hW=>hK a w ⟨fun hz _=>hS hz,hW hS⟩))
 ·exact hs j hj
theorem anyZ_ready {rs:List Nat} {k:Nat} {listed:Array Bool} {a:Act} {w:World} (hr:Region.ready md ops listed = rs) (hne:rs ≠ [])
  (h:ReadyZ P md ops Q S Z k listed a w rs):anyZ P md ops Q S Z (k + 1) listed a w:=⟨fun h0=>absurd (hr ▸ h0) hne,hr ▸ h⟩
theorem anyZ_done {listed:Array Bool} {a:Act} {w:World} (hr:Region.ready md ops listed = []) (h:Q .normal a w):∀ k,anyZ P md ops Q S Z k listed a w
 | 0=>⟨hr,h⟩
 | _ + 1=>⟨fun _=>h,by rw [hr]; simp⟩
theorem wp_region_Z {id:Nat} {a:Act} {w:World} (Z:List Nat) (hm:P.follows .mixedOrders = true) (hS:S w.drew)
  (h:S w.drew → anyZ P .any ops Q S Z ops.size (Array.replicate ops.size false) a w.drew):(Code.region id ops true).wp P Q a w :=
 wp_region_any hm (any_of_Z _ _ _ _ (h hS))
end
end Go.Proofs.YtehimhbgakpenaaGreat

namespace Go.Proofs.YtehimhbgakpenaaGreat
set_option linter.unusedVariables false
set_option linter.unusedSimpArgs false
open Go.RowKit Go.Maps Go.Sort
theorem snT:ElemT Tryz.prog 92 148 (.agg #[.int .i64 0,.slice none 0 0]) 2 32:=⟨Tryz.underlying92,by kernel_rfl,rfl,by omega⟩
def sxL (s:Sx):List Value:=[.int .i64 s.l,.slice s.A s.bs.length s.c]
theorem sxL_one (s:Sx):∀ u ∈ sxL s,u.oneCell' = true:=by
 intro u hu
 simp only [sxL,List.mem_cons,List.not_mem_nil,or_false] at hu
 rcases hu with rfl | rfl <;> rfl
theorem snd_imm:¬ MutT 148:=by unfold MutT; decide
theorem sxV_snoc (l:List Sx) (s:Sx):sxV (l ++ [s]) = sxV l ++ sxL s:=by rw [sxV_append]; rfl
theorem own_other {w w':World} {base base':Nat} {T T':TypeId} {size size':Nat} {v u:Value} {n m:Nat} {xs ys:List Value} (ho:w.ownsRow base T size v n xs) (hu:w.ownsRow base' T' size' u m ys) (hne:T ≠ T') (hg:w.grownBy w' u.ownBlock):w'.ownsRow base T size v n xs:=by
 refine ⟨ho.1,?_⟩
 rcases ho.2 with e | ⟨k,cap,cur,rfl,hgb,hh,r⟩
 ·exact .inl e
 ·refine .inr ⟨k,cap,cur,rfl,hgb,(hg.block k (ho.lt k rfl).2 (fun e=>hne ?_)).trans hh,r⟩
  exact ty_ty (own_ty0 ho rfl) (own_ty0 hu e.symm)
theorem ty_other {w w':World} {base':Nat} {T T':TypeId} {size' k:Nat} {u:Value} {m:Nat} {ys:List Value} (ht:Ty w k T) (hu:w.ownsRow base' T' size' u m ys) (hne:T ≠ T') (hg:w.grownBy w' u.ownBlock):w'.heap[k]? = w.heap[k]? :=
 hg.block k (ty_lt ht) (fun e=>hne (ty_ty ht (own_ty0 hu e.symm)))
theorem Eff.grow {E:Nat → Prop} {w wr w':World} {b:Option Nat} (h:Eff E w wr) (hg:wr.grownBy w' b) (hb:∀ k,b = some k → w.heap.size ≤ k):Eff E w w':=by
 have hbl:∀ k,k < w.heap.size → w'.heap[k]? = wr.heap[k]?:=fun k hk=>hg.block k (Nat.lt_of_lt_of_le hk h.size) (fun e=>by have:=hb k e.symm; omega)
 refine ⟨hg.os.trans h.os,hg.tape.trans h.tape,hg.output.trans h.output,Nat.le_trans h.size hg.size,fun k hk=>?_,fun k T ht=>?_,fun k hm=>?_⟩
 ·rcases h.block k hk with e | e
  ·exact .inl ((hbl k hk).trans e)
  ·exact .inr e
 ·obtain ⟨cur,fr,e⟩:=h.ty k T ht
  exact ⟨cur,fr,(hbl k (ty_lt ht)).trans e⟩
 ·obtain ⟨es,ck,e⟩:=h.mp k hm
  exact ⟨es,ck,(hbl k (mp_lt hm)).trans e⟩
structure SnAt (w wr:World) (m:Sm) (S:Sp) (col:Nat → Nat) (c:Nat) (A:Option Addr) (ca:Nat) (ls:List Sx) (l:List (Int × Ms)):Prop where
 sp:SpAt wr m S col c
 ev:Ev col c w wr
 ow:wr.ownsRow w.heap.size 148 2 (.slice A ls.length ca) ls.length (sxV ls)
 so:∀ s ∈ ls,SxOwn wr w.heap.size s
 eq:ls.map (fun s=>(s.l,s.bs)) = sentB l
 gd:m.gd < w.heap.size ∧ m.gf < w.heap.size
section
variable {w wr w':World} {m:Sm} {S:Sp} {col:Nat → Nat} {c:Nat} {A:Option Addr} {ca:Nat} {ls:List Sx} {l:List (Int × Ms)}
theorem SnAt.below (h:SnAt w wr m S col c A ca ls l) (hb:Below wr.heap.size wr w'):SnAt w w' m S col c A ca ls l :=
 ⟨h.sp.below hb,h.ev.tr (Eff.below hb),own_below h.ow hb,fun s hs=>own_below (h.so s hs) hb,h.eq,h.gd⟩
theorem SnAt.app (h:SnAt w wr m S col c A ca ls l) (hg:wr.grownBy w' (Value.slice A ls.length ca).ownBlock):SpAt w' m S col c:=by
 rcases e:(Value.slice A ls.length ca).ownBlock with _ | k
 ·rw [e] at hg
  exact h.sp.below ⟨hg.os,hg.tape,hg.output,hg.size,fun k hk=>hg.block k hk (by simp)⟩
 ·rw [e] at hg
  have:=(h.ow.lt k e).1
  exact h.sp.app hg (own_ty0 h.ow e) (.inl rfl) (by have:=h.gd.1; omega) (by have:=h.gd.2; omega)
theorem SnAt.push (h:SnAt w wr m S col c A ca ls l) {s:Sx} {mm:Ms} (hs:SxOwn wr w.heap.size s) (hq:s.bs = packB mm) (hg:wr.grownBy w' (Value.slice A ls.length ca).ownBlock) {A':Option Addr} {ca':Nat}
  (ho:w'.ownsRow w.heap.size 148 2 (.slice A' (ls.length + 1) ca') (ls.length + 1) (sxV ls ++ sxL s)):SnAt w w' m S col c A' ca' (ls ++ [s]) (l ++ [(s.l,mm)]):=by
 have hel:(ls ++ [s]).length = ls.length + 1:=by simp
 refine ⟨h.app hg,h.ev.grow hg (fun k e=>(h.ow.lt k e).1),by rw [hel,sxV_snoc]; exact ho,fun x hx=>?_,?_,h.gd⟩
 ·have hx2:SxOwn wr w.heap.size x:=by
   rcases List.mem_append.1 hx with h1 | h1
   ·exact h.so x h1
   ·rw [List.mem_singleton] at h1; subst h1; exact hs
  exact own_other hx2 h.ow (by decide) hg
 ·rw [List.map_append,h.eq]
  unfold sentB
  simp [hq]
end
theorem helT {S:Sp} (h:(S.tm - 1) % S.h1 = 0) {i:Nat} (hi:i < S.ps.length):(helM S).take (i + 1) = (helM S).take i ++ [(S.ps[i].l,⟨1,S.nd,S.bo,S.ps[i].bt,laZero⟩)]:=by
 unfold helM
 rw [if_pos h,List.take_succ_eq_append_getElem (by simpa using hi)]
 simp
theorem helE {S:Sp} (h:(S.tm - 1) % S.h1 = 0):(helM S).take S.ps.length = helM S:=by
 unfold helM
 rw [if_pos h,List.take_of_length_le (by simp)]
theorem updT {S:Sp} {sd:List Fd.Sd} (h:Fd.sdP sd = Fd.sndK S.fl (Fd.lks S.fl)) {k:Nat} (hk:k < sd.length):(updM S).take (k + 1) = (updM S).take k ++ [(sd[k].q,⟨2,0,S.bo,0,sd[k].x.y⟩)]:=by
 unfold updM
 rw [← h]
 rw [List.take_succ_eq_append_getElem (by simpa [Fd.sdP] using hk)]
 simp [Fd.sdP]
theorem updE {S:Sp} {sd:List Fd.Sd} (h:Fd.sdP sd = Fd.sndK S.fl (Fd.lks S.fl)):(updM S).take sd.length = updM S:=by
 unfold updM
 rw [← h,List.take_of_length_le (by simp [Fd.sdP])]
theorem lx_tf8 {w:World} {base:Nat} {s:Fd.Lx} (h:Fd.LxOwn w base s):Fd.LaTf w s.y s.A s.c s.B s.d:=by
 have ha:=LaOwn.at h
 obtain ⟨A,c,B,d,e,o1,o2,_⟩:=h
 simp only [laV,Value.agg.injEq,Array.mk.injEq,List.cons.injEq,Value.slice.injEq,true_and,and_true] at e
 obtain ⟨⟨rfl,rfl⟩,rfl,rfl⟩:=e
 exact ⟨ha,Fd.own_tf o1,Fd.own_tf o2⟩
theorem sd_len8 (F:Fd.Fn):(Fd.sndK F (Fd.lks F)).length ≤ 16384:=by
 unfold Fd.sndK
 have hl:(Fd.lks F).length ≤ 256:=by
  unfold Fd.lks
  exact Nat.le_trans (List.length_filter_le _ _) (by simp)
 have key:∀ l:List Int,(l.flatMap fun q=>match F q.toNat with | some D=>Fd.sndJ q D (Fd.orgs D) | none=>[]).length ≤ l.length * 64:=fun l=>by
  induction l with
  | nil=>simp
  | cons q l ih =>
    rw [List.flatMap_cons,List.length_append,List.length_cons]
    have:(match F q.toNat with | some D=>Fd.sndJ q D (Fd.orgs D) | none=>[]).length ≤ 64:=by
     split
     ·unfold Fd.sndJ
      refine Nat.le_trans (List.length_filterMap_le _ _) ?_
      unfold Fd.orgs
      exact Nat.le_trans (List.length_filter_le _ _) (by simp)
     ·simp
    omega
 exact Nat.le_trans (key (Fd.lks F)) (by omega)
theorem sdV_get8 (l:List Fd.Sd):∀ (k:Nat) (hk:k < l.length) (j:Nat) (hj:j < 7),(Fd.sdV l)[7 * k + j]? = (Fd.sdL l[k])[j]?:=by
 induction l with
 | nil=>intro k hk; simp at hk
 | cons p r ih =>
   intro k hk j hj
   have h7:(Fd.sdL p).length = 7:=rfl
   cases k with
   | zero=>simp only [Fd.sdV,List.getElem_cons_zero]; rw [List.getElem?_append_left (by omega)]; simp
   | succ k =>
     simp only [Fd.sdV,List.getElem_cons_succ]
     rw [List.getElem?_append_right (by omega),h7,show 7 * (k + 1) + j - 7 = 7 * k + j by omega]
     exact ih k (by simpa using hk) j hj
theorem sd_cells8 {w:World} {A:Option Addr} {l:List Fd.Sd} (h:Rd w A (Fd.sdV l)) (k:Nat) (hk:k < l.length) (s:Fd.Sd) (hs:l[k] = s):∃ b off,A = some ⟨b,off,none⟩ ∧ ∀ j u,j < 7 → (Fd.sdL s)[j]? = some u → w.cell? ⟨b,off + k * 7 + j,none⟩ = some u:=by
 obtain ⟨b,off,e,hc⟩:=rd_at h (by rw [Fd.sdV_len]; omega)
 refine ⟨b,off,e,fun j u hj hu=>?_⟩
 have:=hc (7 * k + j) u (by rw [sdV_get8 l k hk j hj,hs]; exact hu)
 rwa [show off + (7 * k + j) = off + k * 7 + j by omega] at this
structure SuAt (w wr:World) (m:Sm) (S:Sp) (col:Nat → Nat) (c:Nat) (A:Option Addr) (ca:Nat) (ls:List Sx) (l:List (Int × Ms)) (B:Option Addr) (cb:Nat) (sd:List Fd.Sd):Prop where
 sn:SnAt w wr m S col c A ca ls l
 sr:wr.ownsRow w.heap.size 263 7 (.slice B sd.length cb) sd.length (Fd.sdV sd)
 la:∀ s ∈ sd,Fd.LaTf wr s.x.y s.x.A s.x.c s.x.B s.x.d
section
variable {w wr w':World} {m:Sm} {S:Sp} {col:Nat → Nat} {c:Nat} {A:Option Addr} {ca:Nat} {ls:List Sx} {l:List (Int × Ms)} {B:Option Addr} {cb:Nat} {sd:List Fd.Sd}
theorem SuAt.below (h:SuAt w wr m S col c A ca ls l B cb sd) (hb:Below wr.heap.size wr w'):SuAt w w' m S col c A ca ls l B cb sd :=
 ⟨h.sn.below hb,own_below h.sr hb,fun s hs=>(Eff.below (E:=fun _=>False) hb).la (h.la s hs)⟩
theorem SuAt.push (h:SuAt w wr m S col c A ca ls l B cb sd) {s:Sx} {mm:Ms} (hs:SxOwn wr w.heap.size s) (hq:s.bs = packB mm) (hg:wr.grownBy w' (Value.slice A ls.length ca).ownBlock) {A':Option Addr} {ca':Nat}
  (ho:w'.ownsRow w.heap.size 148 2 (.slice A' (ls.length + 1) ca') (ls.length + 1) (sxV ls ++ sxL s)):SuAt w w' m S col c A' ca' (ls ++ [s]) (l ++ [(s.l,mm)]) B cb sd:=by
 refine ⟨h.sn.push hs hq hg ho,own_other h.sr h.sn.ow (by decide) hg,fun x hx=>?_⟩
 rcases e:(Value.slice A ls.length ca).ownBlock with _ | k
 ·rw [e] at hg
  exact (Eff.below (E:=fun _=>False) ⟨hg.os,hg.tape,hg.output,hg.size,fun k hk=>hg.block k hk (by simp)⟩).la (h.la x hx)
 ·rw [e] at hg
  exact (Ef2.cells (E:=fun j=>j = k) hg (own_ty0 h.sn.ow e) (.inl rfl) rfl).la (h.la x hx)
end
def SendPost (w:World) (m:Sm) (col:Nat → Nat) (c:Nat) (S':Sp) (l:List (Int × Ms)) (e:Ending) (w':World):Prop:=∃ v,e = .returned v ∧ SndsAt w' w.heap.size v l ∧ SpAt w' m S' col c ∧ Ev col c w w'
set_option maxRecDepth 100000 in
set_option maxHeartbeats 12800000 in
theorem send_any (w:World) (m:Sm) (S:Sp) (col:Nat → Nat) (c:Nat) (h:SpAt w m S col c) (ok:SpOk S) (htm:1 ≤ S.tm ∧ S.tm ≤ 1000000000) :
  Calls Tryz.prog 96 #[.pointer (some ⟨m.g,0,none⟩)] w (SendPost w m col c (sndS S) (helM S ++ updM S)):=by
 have hgd:m.gd < w.heap.size ∧ m.gf < w.heap.size:=⟨h.db.lt.1,h.fl.lt.1⟩
 have hh0:S.h1 ≠ 0:=by have:=ok.h1; omega
 have hpl:=ok.pl
 have hst:SnAt w w m S col c none 0 [] []:=⟨h,Eff.refl _ _,World.ownsRow_nil _ _ _ _,fun s hs=>absurd hs (by simp),rfl,hgd⟩
 have k4:=h.cs.c4
 have k3:=h.cs.c8
 have k5:=h.cs.c5
 have hfn:=ok.fl
 replace ok:=Lib.hid ok
 replace h:=Lib.hid h
 replace hst:=Lib.hid hst
 replace hfn:=Lib.hid hfn
 go_enter Tryz.func96,Tryz.ntmps96
 go_upto_region 2 with fail
 go_quiet (fail)
 have hst2:=hst.out.below (w':=w.drewN nq) (below_drewN (Below.refl _ _) nq)
 clear k4 k3 k5 hst
 generalize w.drewN nq = w2 at *
 obtain ⟨b,hb⟩:∃ b,((S.tm - 1) % S.h1 == 0) = b:=⟨_,rfl⟩
 rw [hb]
 replace hb:=Lib.hid hb
 replace hst2:=Lib.hid hst2
 go_upto_if 19 with fail
 go_cut [3] (fun v3 wx=>∃ A ca ls,v3 = .slice A ls.length ca ∧ Hid (SnAt w wx m S col c A ca ls (helM S)))
 case first =>
  rcases Bool.eq_false_or_eq_true b with rfl | rfl
  ·have hz:(S.tm - 1) % S.h1 = 0:=by simpa using hb.out
   have hT:=fun i (hi:i < S.ps.length)=>helT hz hi
   have hE:=helE hz
   have h1:Hid (SnAt w w2 m S col c none 0 [] ((helM S).take 0)):=by rw [List.take_zero]; exact hst2
   have hhl:Hid ((helM S).length ≤ 512):=by
    unfold helM
    rw [if_pos hz,List.length_map]
    exact hpl
   replace hT:=Lib.hid hT
   replace hE:=Lib.hid hE
   have k9:=hst2.out.sp.cs.c9
   clear hst2 hz
   go_wp2_with fail
   go_loopw [3,25] (fun v3 v25 wr=>∃ (i:Nat) (A:Option Addr) (ca:Nat) (ls:List Sx),v3 = .slice A ls.length ca ∧ v25 = .int .i64 i ∧ i ≤ S.ps.length ∧ Hid (ls.length = i) ∧ Hid (SnAt w wr m S col c A ca ls ((helM S).take i))) (fun _ v25 _=>S.ps.length - (intOf v25).toNat)
   case atStart=>exact ⟨0,none,0,[],rfl,rfl,by omega,rfl,h1⟩
   case round =>
    clear h1 k9
    obtain ⟨i,A,ca,ls,rfl,rfl,hi,hls,h1⟩:=hrel
    by_cases hin:i < S.ps.length
    ·have hTi:=hT.out i hin
     obtain ⟨gp,hP,hc⟩:=h1.out.sp.gp (by omega)
     have hpc:=hc i hin
     obtain ⟨p,hp⟩:∃ p,S.ps[i] = p:=⟨_,rfl⟩
     rw [hp] at hpc hTi
     have p0:=hpc.c0
     have p1:=hpc.c1
     have p2:=hpc.c2
     have p3:=hpc.c3
     have p4:=hpc.c4
     have p4':=hpc.c4'
     have p5:=hpc.c5
     rw [hP]
     replace hTi:=Lib.hid hTi
     clear hpc hc hp
     have hb3:=below_new' wr (.cells #[.int .i64 p.l,.int .i64 p.o,.int .i64 p.c,.int .i64 p.ph,.int .i64 p.lf,.int .i64 p.bt] 118)
     have S3:=((St.start wr).new' #[.int .i64 p.l,.int .i64 p.o,.int .i64 p.c,.int .i64 p.ph,.int .i64 p.lf,.int .i64 p.bt] 118 wr.heap.size _ rfl rfl).drew
     have h3:=h1.out.below S3.b
     go_upto_region 6 with fail
     clear p0 p1 p2 p3 p4 p4' p5 hb3
     have T3:=ty_new wr #[.int .i64 p.l,.int .i64 p.o,.int .i64 p.c,.int .i64 p.ph,.int .i64 p.lf,.int .i64 p.bt] 118
     generalize hw3:World.alloc wr _ = w3 at *
     clear hw3
     have T4:Ty w3.drew wr.heap.size 118:=T3
     clear T3
     have k3:=h3.sp.cs.c3
     have PK:=pack_any w3.drew m S col c h3.sp p.l (.agg #[.int .i64 1,.int .i64 S.nd,.int .i64 0,.int .i64 p.bt,.int .i64 0,.int .i64 0,.int .i64 0,.bool false,.slice none 0 0,.slice none 0 0]) ⟨1,S.nd,0,p.bt,laZero⟩ ⟨none,0,none,0,rfl,(laZero_own _ 0).at⟩
     unfold SndPost at PK
     generalize hbs:packB _ = bs at PK
     replace PK:=Lib.hid PK
     have q0:=S3.c 0 0 rfl rfl
     have q5:=S3.c 0 5 rfl rfl
     refine wp_region_noPanic ?_
     refine wp_region_held_drew (S:=fun W=>W.cell? ⟨m.g,3,none⟩ = some (.int .i64 S.nd) ∧ W.cell? ⟨wr.heap.size,0,none⟩ = some (.int .i64 p.l) ∧ W.cell? ⟨wr.heap.size,5,none⟩ = some (.int .i64 p.bt)) (by kernel_rfl) ⟨k3,q0,q5⟩ (fun hHeld=>?_)
     refine take_first (i:=0) (v:=?_) (some 29) rfl rfl (by kernel_rfl) (by kernel_rfl) (by kernel_rfl) (fun _ _ _ h=>h) (Or.inl ⟨by rfl,?_⟩) (by assumption) ?_
     rotate_left
     ·intro w hSw; (try dsimp only at hSw); go_simp; (try with_reducible rfl)
     try simp only [Act.put,List.setIfInBounds_toArray,List.set_cons_succ,List.set_cons_zero]
     refine take_first (i:=1) (v:=?_) (some 30) rfl rfl (by kernel_rfl) (by kernel_rfl) (by kernel_rfl) (fun _ _ _ h=>h) (Or.inl ⟨by rfl,?_⟩) (by assumption) ?_
     rotate_left
     ·intro w hSw; (try dsimp only at hSw); go_simp; (try with_reducible rfl)
     try simp only [Act.put,List.setIfInBounds_toArray,List.set_cons_succ,List.set_cons_zero]
     refine take_first (i:=2) (v:=?_) (some 31) rfl rfl (by kernel_rfl) (by kernel_rfl) (by kernel_rfl) (fun _ _ _ h=>h) (Or.inl ⟨by rfl,?_⟩) (by assumption) ?_
     rotate_left
     ·intro w hSw; (try dsimp only at hSw); go_simp; (try with_reducible rfl)
     try simp only [Act.put,List.setIfInBounds_toArray,List.set_cons_succ,List.set_cons_zero]
     refine take_first (i:=3) (v:=?_) (some 32) rfl rfl (by kernel_rfl) (by kernel_rfl) (by kernel_rfl) (fun _ _ _ h=>h) (Or.inl ⟨by rfl,?_⟩) (by assumption) ?_
     rotate_left
     ·intro w hSw; (try dsimp only at hSw); go_simp; (try with_reducible rfl)
     try simp only [Act.put,List.setIfInBounds_toArray,List.set_cons_succ,List.set_cons_zero]
     refine take_first (i:=4) (v:=?_) (some 33) rfl rfl (by kernel_rfl) (by kernel_rfl) (by kernel_rfl) (fun _ _ _ h=>h) (Or.inl ⟨by rfl,?_⟩) (by assumption) ?_
     rotate_left
     ·intro w hSw; (try dsimp only at hSw); go_simp; (try with_reducible rfl)
     try simp only [Act.put,List.setIfInBounds_toArray,List.set_cons_succ,List.set_cons_zero]
     refine take_first (i:=5) (v:=?_) (some 34) rfl rfl (by kernel_rfl) (by kernel_rfl) (by kernel_rfl) (fun _ _ _ h=>h) (Or.inl ⟨by rfl,?_⟩) (by assumption) ?_
     rotate_left
     ·intro w hSw; (try dsimp only at hSw); go_simp; (try with_reducible rfl)
     try simp only [Act.put,List.setIfInBounds_toArray,List.set_cons_succ,List.set_cons_zero]
     refine take_first (i:=6) (v:=?_) (some 35) rfl rfl (by kernel_rfl) (by kernel_rfl) (by kernel_rfl) (fun _ _ _ h=>h) (Or.inl ⟨by rfl,?_⟩) (by assumption) ?_
     rotate_left
     ·intro w hSw; (try dsimp only at hSw); go_simp; (try with_reducible rfl)
     try simp only [Act.put,List.setIfInBounds_toArray,List.set_cons_succ,List.set_cons_zero]
     refine take_first (i:=7) (v:=?_) (some 36) rfl rfl (by kernel_rfl) (by kernel_rfl) (by kernel_rfl) (fun _ _ _ h=>h) (Or.inl ⟨by rfl,?_⟩) (by assumption) ?_
     rotate_left
     ·intro w hSw; (try dsimp only at hSw); go_simp; (try with_reducible rfl)
     try simp only [Act.put,List.setIfInBounds_toArray,List.set_cons_succ,List.set_cons_zero]
     refine take_first (i:=8) (v:=?_) (some 37) rfl rfl (by kernel_rfl) (by kernel_rfl) (by kernel_rfl) (fun _ _ _ h=>h) (Or.inl ⟨by rfl,?_⟩) (by assumption) ?_
     rotate_left
     ·intro w hSw; (try dsimp only at hSw); go_simp; (try with_reducible rfl)
     try simp only [Act.put,List.setIfInBounds_toArray,List.set_cons_succ,List.set_cons_zero]
     refine take_first (i:=9) (v:=?_) (some 38) rfl rfl (by kernel_rfl) (by kernel_rfl) (by kernel_rfl) (fun _ _ _ h=>h) (Or.inl ⟨by rfl,?_⟩) (by assumption) ?_
     rotate_left
     ·intro w hSw; (try dsimp only at hSw); go_simp; (try with_reducible rfl)
     try simp only [Act.put,List.setIfInBounds_toArray,List.set_cons_succ,List.set_cons_zero]
     refine take_first (i:=10) (v:=?_) (some 39) rfl rfl (by kernel_rfl) (by kernel_rfl) (by kernel_rfl) (fun _ _ _ h=>h) (Or.inl ⟨by rfl,?_⟩) (by assumption) ?_
     rotate_left
     ·intro w hSw; (try dsimp only at hSw); go_simp; (try with_reducible rfl)
     try simp only [Act.put,List.setIfInBounds_toArray,List.set_cons_succ,List.set_cons_zero]
     refine wpAnyH_ready (rs:=[11]) (by kernel_rfl) (by simp) ?_
     refine AllReadyH.cons rfl (fun K hK=>?_) AllReadyH.nil
     go_simp
     (with_reducible refine (PK.out).mono ?_)
     rintro e wa ⟨A2,c2,rfl,ho2,hba⟩
     dsimp only
     have S4:=S3.call hba
     have h4:=h3.below hba
     refine hK.out _ _ ⟨h4.sp.cs.c3,S4.c 0 0 rfl rfl,S4.c 0 5 rfl rfl⟩ (fun hHeld=>?_)
     clear hK K
     have hb5:=below_new' wa (.cells #[.int .i64 p.l,.slice A2 bs.length c2] 148)
     have S5:=S4.call hb5
     have h5:=h4.below hb5
     have rd5:=Rd.lit wa #[.int .i64 p.l,.slice A2 bs.length c2] 148
     have ho5:=own_below ho2 hb5
     refine wpAnyH_ready (rs:=[12]) (by kernel_rfl) (by simp) ?_
     refine AllReadyH.cons rfl (fun K hK=>?_) AllReadyH.nil
     go_simp
     refine hK.out _ _ ⟨h5.sp.cs.c3,S5.c 0 0 rfl rfl,S5.c 0 5 rfl rfl⟩ (fun hHeld=>?_)
     clear hK K
     have hown5:=h5.ow
     have hsz:=h5.ev.size
     have hll:=hls.out
     have hhl':=hhl.out
     refine wpAnyH_ready (rs:=[13]) (by kernel_rfl) (by simp) ?_
     refine AllReadyH.cons rfl (fun K hK=>?_) AllReadyH.nil
     refine step_appG rfl snT (.tmp 29) (.tmp 41) (by rfl) w.heap.size (by rfl) hown5 (by rfl) (m:=1) (by rfl) rd5 (sxL_one ⟨p.l,A2,bs,c2⟩) (by simp only [maxLen]; omega) (by omega) hsz (ls.length + 1) _ rfl rfl ?_
     intro v6 w6 ho6 hb6 hg6
     obtain ⟨A6,c6,rfl,-⟩:=own_rd ho6
     have T5:=TyPres.below hb5 _ _ (TyPres.below hba _ _ T4)
     have e6:=ty_other T5 hown5 (by decide) hg6
     have hP6:=h5.push (s:=⟨p.l,A2,bs,c2⟩) (mm:=⟨1,S.nd,S.bo,p.bt,laZero⟩) (own_mono ho5 h3.ev.size) hbs.symm hg6 ho6
     rw [← hTi.out] at hP6
     have hsz6:(ls ++ [(⟨p.l,A2,bs,c2⟩:Sx)]).length = ls.length + 1:=by simp
     refine hK.out _ _ ⟨hP6.sp.cs.c3,(World.cell?_of_block (a:=⟨wr.heap.size,0,none⟩) e6).trans (S5.c 0 0 rfl rfl),(World.cell?_of_block (a:=⟨wr.heap.size,5,none⟩) e6).trans (S5.c 0 5 rfl rfl)⟩ (fun hHeld=>?_)
     clear hK K
     refine take_first (i:=14) (v:=.slice A6 (ls.length + 1) c6) (some 3) rfl rfl (by kernel_rfl) (by kernel_rfl) (by kernel_rfl) (fun _ _ _ h=>h) (Or.inl ⟨by rfl,fun _ _=>rfl⟩) (by assumption) ?_
     try simp only [Act.put,List.setIfInBounds_toArray,List.set_cons_succ,List.set_cons_zero]
     refine wpAnyH_done (by kernel_rfl) ?_ _
     refine NoPanic.normal ?_
     have hrel:Hid ((ls ++ [(⟨p.l,A2,bs,c2⟩:Sx)]).length = i + 1):=Lib.hid (by rw [hsz6,hll])
     rw [← hsz6]
     replace hP6:=Lib.hid hP6
     clear hHeld hsz6 e6 T5 T4 ho6 hb6 hg6 hown5 hsz hll hhl' S3 S4 S5 h3 h4 h5 rd5 ho5 ho2 hba hb5 k3 q0 q5 PK hTi
     go_wp2_with fail
     go_round
     case rel=>exact ⟨i + 1,A6,c6,_,by simp,by go_num,by omega,hrel,hP6⟩
     case measure=>simp [intOf]; omega
    ·have hii:i = S.ps.length:=by omega
     have h2:Hid (SnAt w wr m S col c A ca ls (helM S)):=by
      have:=h1.out
      rw [hii,hE.out] at this
      exact this
     have e1:decide ((i:Int) < (S.ps.length:Int)) = false:=by simp; omega
     clear h1 hii
     go_wp2_with fail
     go_meet
     exact ⟨A,ca,ls,rfl,h2⟩
  ·have e2:helM S = []:=by unfold helM; exact if_neg (by simpa using hb.out)
   have hst3:Hid (SnAt w w2 m S col c none 0 [] (helM S)):=by rw [e2]; exact hst2
   clear e2 hst2
   go_wp2_with fail
   go_meet
   exact ⟨none,0,[],rfl,hst3⟩
 case rest =>
  clear hst2 hb
  obtain ⟨A,ca,ls,rfl,h1⟩:=hcut
  have PL:=Fd.fpoll_any wc m.gf m.bf S.h3 S.fl m.ff h1.out.sp.fl hfn.out
  unfold Fd.PollPost at PL
  replace PL:=Lib.hid PL
  have k13:=h1.out.sp.cs.c13
  go_wp2_with fail
  (with_reducible refine (PL.out).mono ?_)
  rintro e w3 ⟨B,cb,sd,rfl,o3,hsd,hso,hf3,hk3⟩
  clear k13 PL
  have ht:=h1.out.sp.flTurn hk3 hf3 (fun l=>by unfold Fd.polN; simp)
  have hsl:sd.length ≤ 16384:=by
   have:=congrArg List.length hsd
   simp only [Fd.sdP,List.length_map] at this
   rw [this]
   exact sd_len8 _
  have hP:SuAt w w3 m (sndS S) col c A ca ls (helM S ++ (updM S).take 0) B cb sd :=
   ⟨⟨ht.1,h1.out.ev.tr ht.2,ht.2.own h1.out.ow snd_imm,fun s hs=>ht.2.own (h1.out.so s hs) u8_imm,by rw [List.take_zero,List.append_nil]; exact h1.out.eq,h1.out.gd⟩,own_mono o3 h1.out.ev.size,fun s hs=>lx_tf8 (hso s hs)⟩
  have hT:=fun k (hk:k < sd.length)=>updT hsd hk
  have hE:=updE hsd
  have hhl:Hid ((helM S).length ≤ 512):=by
   unfold helM
   split
   ·rw [List.length_map]; exact Lib.hid hpl
   ·exact Lib.hid (by simp)
  obtain ⟨nd,hnd⟩:∃ nd,sd.length = nd:=⟨_,rfl⟩
  rw [hnd] at hsl ⊢
  replace hnd:=Lib.hid hnd
  replace hP:=Lib.hid hP
  replace hT:=Lib.hid hT
  replace hE:=Lib.hid hE
  have hfin:=fun W A ca ls (h:SuAt w W m (sndS S) col c A ca ls (helM S ++ updM S) B cb sd)=>(show SendPost w m col c (sndS S) (helM S ++ updM S) (.returned (.slice A ls.length ca)) W from ⟨_,rfl,⟨A,ca,ls,rfl,h.sn.ow,h.sn.so,h.sn.eq⟩,h.sn.sp,h.sn.ev⟩)
  replace hfin:=Lib.hid hfin
  have hls0:Hid (ls.length = (helM S).length):=by
   have:=congrArg List.length h1.out.eq
   simp only [List.length_map,sentB] at this
   exact Lib.hid this
  clear ht o3 hso hf3 hk3 hsd h1
  go_wp2_with fail
  go_loopw [3,50] (fun v3 v50 wr=>∃ (k:Nat) (A:Option Addr) (ca:Nat) (ls:List Sx),v3 = .slice A ls.length ca ∧ v50 = .int .i64 k ∧ k ≤ nd ∧ Hid (ls.length = (helM S).length + k) ∧ Hid (SuAt w wr m (sndS S) col c A ca ls (helM S ++ (updM S).take k) B cb sd)) (fun _ v50 _=>nd - (intOf v50).toNat)
  case atStart=>exact ⟨0,A,ca,ls,rfl,rfl,by omega,hls0,hP⟩
  case round =>
   clear hP hls0
   obtain ⟨k,A,ca,ls,rfl,rfl,hk,hls,hP⟩:=hrel
   by_cases hkn:k < nd
   ·have hkl:k < sd.length:=by rw [hnd.out]; exact hkn
    obtain ⟨b3,off3,rfl,hc3⟩:=sd_cells8 (own_slice hP.out.sr) k hkl _ rfl
    have hTk:=hT.out k hkl
    have hla:=hP.out.la _ (List.getElem_mem hkl)
    obtain ⟨s,hs⟩:∃ s,sd[k] = s:=⟨_,rfl⟩
    rw [hs] at hc3 hTk hla
    obtain ⟨q,⟨y,A3,c3,B3,d3⟩⟩:=s
    simp only at hTk hla
    have y0:wr.cell? ⟨b3,off3 + k * 7,none⟩ = some (.int .i64 q):=hc3 0 _ (by omega) rfl
    have y1:wr.cell? ⟨b3,off3 + k * 7 + 1,none⟩ = some (.int .i64 y.o):=hc3 1 _ (by omega) rfl
    have y2:wr.cell? ⟨b3,off3 + k * 7 + 2,none⟩ = some (.int .i64 y.s):=hc3 2 _ (by omega) rfl
    have y3:wr.cell? ⟨b3,off3 + k * 7 + 3,none⟩ = some (.int .i64 y.a):=hc3 3 _ (by omega) rfl
    have y4:wr.cell? ⟨b3,off3 + k * 7 + 4,none⟩ = some (.bool y.ov):=hc3 4 _ (by omega) rfl
    have y5:wr.cell? ⟨b3,off3 + k * 7 + 5,none⟩ = some (.slice A3 y.adj.length c3):=hc3 5 _ (by omega) rfl
    have y6:wr.cell? ⟨b3,off3 + k * 7 + 6,none⟩ = some (.slice B3 y.pre.length d3):=hc3 6 _ (by omega) rfl
    replace hTk:=Lib.hid hTk
    clear hc3 hs
    have S3:=((St.start wr).new' #[.int .i64 q,.int .i64 y.o,.int .i64 y.s,.int .i64 y.a,.bool y.ov,.slice A3 y.adj.length c3,.slice B3 y.pre.length d3] 263 wr.heap.size _ rfl rfl)
    have T3:=ty_new wr #[.int .i64 q,.int .i64 y.o,.int .i64 y.s,.int .i64 y.a,.bool y.ov,.slice A3 y.adj.length c3,.slice B3 y.pre.length d3] 263
    have h3:=hP.out.below S3.b
    have hla3:=(Eff.below (E:=fun _=>False) S3.b).la hla
    go_upto_region 11 with fail
    clear y0 y1 y2 y3 y4 y5 y6
    generalize hw3:World.alloc wr _ = w3 at *
    clear hw3
    have T4:=T3
    clear T3
    have PK:=pack_any w3 m (sndS S) col c h3.sn.sp q (.agg #[.int .i64 2,.int .i64 0,.int .i64 0,.int .i64 0,.int .i64 y.o,.int .i64 y.s,.int .i64 y.a,.bool y.ov,.slice A3 y.adj.length c3,.slice B3 y.pre.length d3]) ⟨2,0,0,0,y⟩ ⟨A3,c3,B3,d3,rfl,hla3.1⟩
    unfold SndPost at PK
    generalize hbs:packB _ = bs at PK
    replace PK:=Lib.hid PK
    have hcs:∀ W,St wr W [(wr.heap.size,#[Value.int .i64 q,.int .i64 y.o,.int .i64 y.s,.int .i64 y.a,.bool y.ov,.slice A3 y.adj.length c3,.slice B3 y.pre.length d3].toList)] [] → (W.cell? ⟨wr.heap.size,0,none⟩ = some (.int .i64 q) ∧ W.cell? ⟨wr.heap.size,1,none⟩ = some (.int .i64 y.o) ∧ W.cell? ⟨wr.heap.size,2,none⟩ = some (.int .i64 y.s) ∧ W.cell? ⟨wr.heap.size,3,none⟩ = some (.int .i64 y.a) ∧ W.cell? ⟨wr.heap.size,4,none⟩ = some (.bool y.ov) ∧ W.cell? ⟨wr.heap.size,5,none⟩ = some (.slice A3 y.adj.length c3) ∧ W.cell? ⟨wr.heap.size,6,none⟩ = some (.slice B3 y.pre.length d3)):=fun W S=>⟨S.c 0 0 rfl rfl,S.c 0 1 rfl rfl,S.c 0 2 rfl rfl,S.c 0 3 rfl rfl,S.c 0 4 rfl rfl,S.c 0 5 rfl rfl,S.c 0 6 rfl rfl⟩
    have hcs3:=hcs _ S3
    obtain ⟨z0,z1,z2,z3,z4,z5,z6⟩:=hcs3
    go_wp2_with fail
    (with_reducible refine (PK.out).mono ?_)
    rintro e wa ⟨A2,c2,rfl,ho2,hba⟩
    clear z0 z1 z2 z3 z4 z5 z6
    have S4:=S3.call hba
    have h4:=h3.below hba
    have hb5:=below_new' wa (.cells #[.int .i64 q,.slice A2 bs.length c2] 148)
    have S5:=S4.call hb5
    have h5:=h4.below hb5
    have rd5:=Rd.lit wa #[.int .i64 q,.slice A2 bs.length c2] 148
    have ho5:=own_below ho2 hb5
    have hown5:=h5.sn.ow
    have hsz:=h5.sn.ev.size
    have hll:=hls.out
    have hhl':=hhl.out
    replace hsz:=Lib.hid hsz
    replace hll:=Lib.hid hll
    go_wp2_with (at_builtin; refine wpList_appG rfl snT (.tmp 54) (.tmp 62) rfl w.heap.size rfl hown5 (m:=1) rfl rfl rd5 (sxL_one ⟨q,A2,bs,c2⟩) (by have:=hll.out; simp only [maxLen]; omega) (by have:=hll.out; omega) hsz.out (ls.length + 1) _ rfl rfl ?_; intro v6 w6 ho6 hb6 hg6; obtain ⟨A6,c6,rfl,-⟩:=own_rd ho6)
    have T5:=TyPres.below hb5 _ _ (TyPres.below hba _ _ T4)
    have e6:=ty_other T5 hown5 (by decide) hg6
    have hP6:=h5.push (s:=⟨q,A2,bs,c2⟩) (mm:=⟨2,0,S.bo,0,y⟩) (own_mono ho5 h3.sn.ev.size) hbs.symm hg6 ho6
    have hsz6:(ls ++ [(⟨q,A2,bs,c2⟩:Sx)]).length = ls.length + 1:=by simp
    rw [List.append_assoc,← hTk.out] at hP6
    have hrel:Hid ((ls ++ [(⟨q,A2,bs,c2⟩:Sx)]).length = (helM S).length + (k + 1)):=Lib.hid (by rw [hsz6,hll.out]; omega)
    replace hP6:=Lib.hid hP6
    clear hsz6 e6 T5 T4 ho6 hb6 hg6 hown5 hsz hll hhl' S3 S4 S5 h3 h4 h5 rd5 ho5 ho2 hba hb5 PK hTk hcs hla hla3
    go_round
    case rel=>exact ⟨k + 1,A6,c6,ls ++ [⟨q,A2,bs,c2⟩],by simp,by go_num,by omega,hrel,hP6⟩
    case measure=>simp [intOf]; omega
   ·have hkk:k = nd:=by omega
    have h2:SuAt w wr m (sndS S) col c A ca ls (helM S ++ updM S) B cb sd:=by
     have:=hP.out
     rw [hkk,← hnd.out,hE.out] at this
     exact this
    have hf:=Lib.hid (hfin.out wr A ca ls h2)
    have e1:decide ((k:Int) < (nd:Int)) = false:=by simp; omega
    clear hP hkk h2
    go_wp2_with fail
    go_ret
    exact hf.out
end Go.Proofs.YtehimhbgakpenaaGreat

namespace Go.Proofs.YtehimhbgakpenaaGreat
set_option linter.unusedVariables false
set_option linter.unusedSimpArgs false
open Go.RowKit Go.Maps Go.Sort
theorem unp_ok {bs:List UInt8} (h:unpE bs = 0):msB (unpM bs) = true:=by
 unfold unpM
 unfold unpE at h
 split at h
 ·next r hr =>
  simp only [h,if_true]
  unfold unpE1 at h
  split at h
  ·split at h
   ·next h1=>exact h1.2
   ·cases h
  ·split at h
   ·split at h
    ·cases h
    ·split at h
     ·cases h
     ·split at h
      ·assumption
      ·cases h
   ·cases h
 ·cases h
noncomputable def rcvS (S:Sp) (l:Int) (bs:List UInt8):(Sp × List (Int × Ms)) × Int :=
 match fndS S.ps l with
 | none=>((S,[]),2)
 | some i=>if unpE bs ≠ 0 then ((S,[]),unpE bs) else if (unpM bs).k = 1 ∧ (unpM bs).n ≠ (match S.ps[i]? with | some p=>p.o | none=>0) then ((S,[]),1) else (recS S i (unpM bs),0)
def RecvPost (w:World) (m:Sm) (col:Nat → Nat) (c:Nat) (r:(Sp × List (Int × Ms)) × Int) (e:Ending) (w':World):Prop:=∃ v,e = .returned (.tuple #[v,.int .i64 r.2]) ∧ SndsAt w' w.heap.size v r.1.2 ∧ SpTo w m col c r.1.1 w'
theorem own_lit2 (w:World) (T:TypeId) (a b:Value) {base:Nat} (hb:base ≤ w.heap.size):(w.alloc (.cells #[a,b] T)).ownsRow base T 2 (.slice (some ⟨w.heap.size,0,none⟩) 1 1) 1 [a,b] :=
 ⟨by simp,.inr ⟨w.heap.size,1,#[a,b],rfl,hb,heap_alloc_new w _,by omega,by simp [maxLen],by simp,by simp⟩⟩
theorem ms_tf {w:World} {base:Nat} {y:La} {A:Option Addr} {c:Nat} {B:Option Addr} {d:Nat} (h:LaOwn w base (laW y A c B d) y):Fd.LaTf w y A c B d:=by
 have ha:=LaOwn.at h
 obtain ⟨A',c',B',d',e,o1,o2,_⟩:=h
 simp only [laV,Value.agg.injEq,Array.mk.injEq,List.cons.injEq,Value.slice.injEq,true_and,and_true] at e
 obtain ⟨⟨rfl,rfl⟩,rfl,rfl⟩:=e
 exact ⟨ha,Fd.own_tf o1,Fd.own_tf o2⟩
theorem insS_bo (S:Sp) (l:Int) (a:La):(insS S l a).1.bo = S.bo:=by
 unfold insS
 split
 ·rfl
 ·split <;> rfl
theorem updS_bo (S:Sp) (l:Int) (a:La):(updS S l a).1.bo = S.bo:=by
 unfold updS
 split
 ·split
  ·rfl
  ·split
   ·rfl
   ·exact insS_bo _ _ _
 ·exact insS_bo _ _ _
theorem fnd_at {ps:List Po} {l:Int} {i:Nat} (h:fndS ps l = some i):∃ hi:i < ps.length,ps[i].l = l:=by
 unfold fndS at h
 rw [List.findIdx?_eq_some_iff_getElem] at h
 obtain ⟨h1,h2,_⟩:=h
 exact ⟨h1,by simpa using h2⟩
set_option maxRecDepth 100000 in
set_option maxHeartbeats 12800000 in
theorem spRecv_any (w:World) (m:Sm) (S:Sp) (col:Nat → Nat) (c:Nat) (h:SpAt w m S col c) (ok:SpOk S) (l:Int) (A:Option Addr) (n cap:Nat) (bs:List UInt8) (hr:Bs w A bs) (hn:bs.length = n) (hcap:n ≤ cap) (hm:cap ≤ maxLen) (hn2:n ≤ 100000) :
  Calls Tryz.prog 24 #[.pointer (some ⟨m.g,0,none⟩),.int .i64 l,.slice A n cap] w (RecvPost w m col c (rcvS S l bs)):=by
 have P:=port_any w m S col c h (by have:=ok.pl; omega) l
 unfold PortPost at P
 rcases hf:fndS S.ps l with _ | i
 ·rw [hf] at P
  have hu:rcvS S l bs = ((S,[]),2):=by unfold rcvS; rw [hf]
  rw [hu]
  have hfin:RecvPost w m col c ((S,[]),2) (.returned (.tuple #[.slice none 0 0,.int .i64 2])) w:=⟨_,rfl,snds_nil _ _,SpTo.of h (Eff.refl _ _)⟩
  replace P:=Lib.hid P
  replace hfin:=Lib.hid hfin
  clear h hf hu ok hr
  go_enter Tryz.func24,Tryz.ntmps24
  go_wp2_with fail
  (with_reducible refine (P.out).mono ?_)
  rintro e w1 ⟨rfl,rfl⟩
  clear P
  go_wp2_with fail
  go_ret2
  exact hfin.out
 ·rw [hf] at P
  obtain ⟨hi,hil⟩:=fnd_at hf
  obtain ⟨p,hp⟩:∃ p,S.ps[i] = p:=⟨_,rfl⟩
  have U:=sunpack_any A n cap bs w hr hn hcap hm hn2
  have hmok:Hid (unpE bs = 0 → msB (unpM bs) = true):=unp_ok
  have hu1:Hid (unpE bs ≠ 0 → rcvS S l bs = ((S,[]),unpE bs)):=fun e=>by unfold rcvS; rw [hf]; simp only [if_pos e]
  have hu2:Hid (unpE bs = 0 → (unpM bs).k = 1 → (unpM bs).n ≠ p.o → rcvS S l bs = ((S,[]),1)):=fun e e1 e2=>by
   unfold rcvS; rw [hf]; simp only [List.getElem?_eq_getElem hi,hp]; rw [if_neg (by simp [e]),if_pos ⟨e1,e2⟩]
  have hu3:Hid (unpE bs = 0 → ((unpM bs).k = 1 → (unpM bs).n = p.o) → rcvS S l bs = (recS S i (unpM bs),0)):=fun e e1=>by
   unfold rcvS; rw [hf]; simp only [List.getElem?_eq_getElem hi,hp]; rw [if_neg (by simp [e]),if_neg (fun e2=>e2.2 (e1 e2.1))]
  have hpp:=hp
  rw [hp] at hil
  generalize rcvS S l bs = R at *
  generalize unpE bs = E at *
  generalize unpM bs = mm at *
  subst hil
  replace P:=Lib.hid P
  replace U:=Lib.hid U
  replace h:=Lib.hid h
  replace ok:=Lib.hid ok
  replace hp:=Lib.hid hp
  clear hf hr hn hcap hm hn2 hpp
  go_enter Tryz.func24,Tryz.ntmps24
  go_wp2_with fail
  (with_reducible refine (P.out).mono ?_)
  rintro e w1 ⟨rfl,gp,hP,rfl⟩
  clear P
  go_wp2_with fail
  unfold UnpPost at U
  (with_reducible refine (U.out).mono ?_)
  rintro e w1 ⟨v,rfl,⟨A2,ca,B2,da,rfl,hown⟩,hb⟩
  clear U
  have S2:=(((St.start w).call hb).new' #[.int .i64 mm.k,.int .i64 mm.n,.int .i64 mm.b,.int .i64 mm.h,.int .i64 mm.y.o,.int .i64 mm.y.s,.int .i64 mm.y.a,.bool mm.y.ov,.slice A2 mm.y.adj.length ca,.slice B2 mm.y.pre.length da] 142 w1.heap.size _ rfl rfl)
  have T2:=ty_new w1 #[.int .i64 mm.k,.int .i64 mm.n,.int .i64 mm.b,.int .i64 mm.h,.int .i64 mm.y.o,.int .i64 mm.y.s,.int .i64 mm.y.a,.bool mm.y.ov,.slice A2 mm.y.adj.length ca,.slice B2 mm.y.pre.length da] 142
  have hb2:=below_new' w1 (.cells #[.int .i64 mm.k,.int .i64 mm.n,.int .i64 mm.b,.int .i64 mm.h,.int .i64 mm.y.o,.int .i64 mm.y.s,.int .i64 mm.y.a,.bool mm.y.ov,.slice A2 mm.y.adj.length ca,.slice B2 mm.y.pre.length da] 142)
  have hla:=ms_tf (hown.below hb2)
  have h2:=h.out.below S2.b
  have v2:Ev col c w _:=Eff.below S2.b
  go_upto_if 24 with fail
  generalize hw2:World.alloc w1 _ = w2 at *
  clear hw2 hown hb hb2
  generalize w1.heap.size = kb at *
  replace h2:=Lib.hid h2
  replace v2:=Lib.hid v2
  replace h:=Lib.hid True.intro
  by_cases hE:E = 0
  ·have e1:(E != 0) = false:=by simp [hE]
   have hms:=ms_cases (hmok.out hE)
   have hu2':Hid (mm.k = 1 → mm.n ≠ p.o → R = ((S,[]),1)):=hu2.out hE
   have hu3':Hid ((mm.k = 1 → mm.n = p.o) → R = (recS S i mm,0)):=hu3.out hE
   replace hE:=Lib.hid hE
   replace hms:=Lib.hid hms
   clear hu1 hu2 hu3 hmok
   have hpc:=h2.out.pcs hP hi
   rw [hp.out] at hpc
   by_cases hk:mm.k = 1
   ·have e2:(mm.k == 1) = true:=by simp [hk]
    have p1:=hpc.c1
    have c0:=S2.c 0 0 rfl rfl
    have c1:=S2.c 0 1 rfl rfl
    clear hpc
    by_cases hn:mm.n = p.o
    ·have e3:(mm.n != p.o) = false:=by simp [hn]
     have hR:=hu3'.out (fun _=>hn)
     have hrec:recS S i mm = (helS S i mm.b mm.h,[]):=by
      unfold recS; rw [List.getElem?_eq_getElem hi,hp.out]; simp only [hk,if_true]
     rw [hrec] at hR
     replace hk:=Lib.hid hk
     replace hn:=Lib.hid hn
     replace hR:=Lib.hid hR
     clear hrec hu2' hu3'
     go_upto_region 10 with fail
     go_quiet (fail)
     have h3:=h2.out.below (w':=w2.drewN nq) (below_drewN (Below.refl _ _) nq)
     have v3:=v2.out.tr (Eff.below (E:=fun k=>col k = c) (below_drewN (Below.refl w2.heap.size w2) nq))
     have S3:=S2.call (below_drewN (Below.refl _ _) nq)
     clear p1 c0 c1 h2 v2 S2
     generalize w2.drewN nq = w3 at *
     have c0:=S3.c 0 0 rfl rfl
     have c1:=S3.c 0 1 rfl rfl
     have c2:=S3.c 0 2 rfl rfl
     have c3:=S3.c 0 3 rfl rfl
     have c4:=S3.c 0 4 rfl rfl
     have c5:=S3.c 0 5 rfl rfl
     have c6:=S3.c 0 6 rfl rfl
     have c7:=S3.c 0 7 rfl rfl
     have c8:=S3.c 0 8 rfl rfl
     have c9:=S3.c 0 9 rfl rfl
     have hbr:0 ≤ mm.b ∧ mm.b ≤ 1073741824:=by have:=hms.out.1; omega
     have RH:=Lib.hid (recHel_any w3 m S col c h3 gp hP i mm A2 ca B2 da ok.out.h2 (ok.out.fo hi 0 0) p hp.out ((ok.out.he2 hi p hbr).fo (by rw [botS_len,hel1_len]; exact hi) _ _))
     have hfin:Hid (∀ W,SpTo w3 m col c (helS S i mm.b mm.h) W → RecvPost w m col c R (.returned (.tuple #[.slice none 0 0,.int .i64 0])) W):=fun W hto=>by
      rw [hR.out]
      exact ⟨_,rfl,snds_nil _ _,SpTo.from v3 hto⟩
     clear hR h3 v3 S3 hbr
     go_wp2_with fail
     (with_reducible refine (RH.out).mono ?_)
     rintro e w9 ⟨rfl,hto⟩
     have hf:=hfin.out w9 hto
     clear RH hto hfin
     clear c0 c1 c2 c3 c4 c5 c6 c7 c8 c9
     go_wp2_with fail
     go_ret2
     exact hf
    ·have e3:(mm.n != p.o) = true:=by simp [hn]
     have hR:=hu2'.out hk hn
     have hf:∀ W,Below w2.heap.size w2 W → RecvPost w m col c R (.returned (.tuple #[.slice none 0 0,.int .i64 1])) W:=fun W hb=>by
      rw [hR]
      exact ⟨_,rfl,snds_nil _ _,SpTo.of (h2.out.below hb) (v2.out.tr (Eff.below hb))⟩
     replace hk:=Lib.hid hk
     replace hn:=Lib.hid hn
     replace hf:=Lib.hid hf
     clear hR hu2' hu3'
     go_upto_region 10 with fail
     go_quiet (fail)
     have hf2:=hf.out _ (below_drewN (Below.refl w2.heap.size w2) nq)
     clear p1 c0 c1
     go_wp2_with fail
     go_ret2
     exact hf2
   ·have e2:(mm.k == 1) = false:=by simp [hk]
    have hk23:mm.k = 2 ∨ mm.k = 3:=by rcases hms.out.2 with ⟨h1,_⟩ | ⟨h1,_⟩; exact absurd h1 hk; exact h1
    have hva:LaValid mm.y:=by rcases hms.out.2 with ⟨h1,_⟩ | ⟨_,_,_,h1⟩; exact absurd h1 hk; exact h1
    have hR:=hu3'.out (fun h1=>absurd h1 hk)
    have p3:=cell_regrown hpc.c3
    have p5:=cell_regrown hpc.c5
    have q2:=cell_regrown (S2.c 0 2 rfl rfl)
    have q0:=S2.c 0 0 rfl rfl
    have hno:Hid (p.ph ≠ 2 ∨ p.bt ≠ mm.b → ∀ W,Below w2.heap.size w2 W → RecvPost w m col c R (.returned (.tuple #[.slice none 0 0,.int .i64 0])) W):=fun hc W hb=>by
     have hrec:recS S i mm = (S,[]):=by
      unfold recS; rw [List.getElem?_eq_getElem hi,hp.out]; simp only [if_neg hk,if_pos hc]
     rw [hR,hrec]
     exact ⟨_,rfl,snds_nil _ _,SpTo.of (h2.out.below hb) (v2.out.tr (Eff.below hb))⟩
    replace hk:=Lib.hid hk
    replace hk23:=Lib.hid hk23
    replace hR:=Lib.hid hR
    replace hva:=Lib.hid hva
    clear hpc hu2' hu3'
    go_upto_region 14 with fail
    go_cut [54] (fun v54 wx=>v54 = .bool (p.ph != 2 || p.bt != mm.b) ∧ Below w2.heap.size w2 wx)
    case first =>
     rcases Bool.eq_false_or_eq_true (p.ph != 2) with e3 | e3
     all_goals
      refine wp_region_quiet_below (by kernel_rfl) (by kernel_rfl) ?_
      repeat (go_big_quiet_step (fail))
      refine wpQuiet_nil ?_
      intro _ hw'
      obtain ⟨⟨dq,osq⟩,hw''⟩:=hw'
      subst hw''
      have hbq:=below_regrown w2 dq osq
      dsimp only
      generalize Sort.grow (redrawn w2 dq) osq = wq at hbq ⊢
      go_wp2_with fail
      go_meet
      exact ⟨by simp [e3],hbq⟩
    case rest =>
     obtain ⟨rfl,hb⟩:=hcut
     clear p3 p5 q2 q0
     generalize hbq:(p.ph != 2 || p.bt != mm.b) = bq
     replace hbq:=Lib.hid hbq
     rcases Bool.eq_false_or_eq_true bq with rfl | rfl
     ·have hf:=hno.out (by simpa using hbq.out) _ hb
      clear hno
      go_wp2_with fail
      go_ret2
      exact hf
     ·have hc:¬ (p.ph ≠ 2 ∨ p.bt ≠ mm.b):=by simpa using hbq.out
      have h3:=h2.out.below hb
      have v3:=v2.out.tr (Eff.below (E:=fun k=>col k = c) hb)
      have S3:=S2.call hb
      have T3:=TyPres.below hb _ _ T2
      have la3:=(Eff.below (E:=fun _=>False) hb).la hla
      have bx3:=S3.box 0 rfl
      have hrec:(mm.k = 2 → recS S i mm = ((updS S p.l mm.y).1,if (updS S p.l mm.y).2 = true then [(p.l,⟨3,0,S.bo,0,mm.y⟩)] else [])) ∧ (mm.k ≠ 2 → recS S i mm = ({ S with fl:=ackL S.fl p.l.toNat mm.y },[])):=by
       constructor
       ·intro h4; unfold recS; rw [List.getElem?_eq_getElem hi,hp.out]; simp only [if_neg hk.out,if_neg hc,if_pos h4]
       ·intro h4; unfold recS; rw [List.getElem?_eq_getElem hi,hp.out]; simp only [if_neg hk.out,if_neg hc,if_neg h4]
      replace hrec:=Lib.hid hrec
      replace hc:=Lib.hid hc
      have hpok:=ok.out.ps _ (List.getElem_mem hi)
      rw [hp.out] at hpok
      replace hpok:=Lib.hid hpok
      have hcs:∀ W,Box W kb [.int .i64 mm.k,.int .i64 mm.n,.int .i64 mm.b,.int .i64 mm.h,.int .i64 mm.y.o,.int .i64 mm.y.s,.int .i64 mm.y.a,.bool mm.y.ov,.slice A2 mm.y.adj.length ca,.slice B2 mm.y.pre.length da] → (W.cell? ⟨kb,4,none⟩ = some (.int .i64 mm.y.o) ∧ W.cell? ⟨kb,5,none⟩ = some (.int .i64 mm.y.s) ∧ W.cell? ⟨kb,6,none⟩ = some (.int .i64 mm.y.a) ∧ W.cell? ⟨kb,7,none⟩ = some (.bool mm.y.ov) ∧ W.cell? ⟨kb,8,none⟩ = some (.slice A2 mm.y.adj.length ca) ∧ W.cell? ⟨kb,9,none⟩ = some (.slice B2 mm.y.pre.length da)):=fun W h=>⟨h.c 4 rfl,h.c 5 rfl,h.c 6 rfl,h.c 7 rfl,h.c 8 rfl,h.c 9 rfl⟩
      have q0:=S3.c 0 0 rfl rfl
      clear h2 v2 S2 hno hb hla T2
      rcases hk23.out with hk2 | hk3
      ·have e4:(mm.k == 2) = true:=by simp [hk2]
       have hR2:=hR.out
       rw [hrec.out.1 hk2] at hR2
       have RU:=recUpd_any wc m S col c h3 ok.out.db gp hP i hi p hp.out hpok.out.l mm.y A2 ca B2 da la3 hva.out (by have:=ok.out.xl; omega) (by have:=ok.out.xl; omega) ok.out.xs.1 ok.out.xs.2
       have hbo:(updS S p.l mm.y).1.bo = S.bo:=updS_bo _ _ _
       generalize updS S p.l mm.y = r at *
       obtain ⟨S4,b⟩:=r
       simp only at RU hR2 hbo
       replace hk2:=Lib.hid hk2
       replace RU:=Lib.hid RU
       replace hR2:=Lib.hid hR2
       replace hbo:=Lib.hid hbo
       clear hrec hR hk23
       obtain ⟨q4,q5,q6,q7,q8,q9⟩:=hcs _ bx3
       go_wp2_with fail
       (with_reducible refine (RU.out).mono ?_)
       rintro e w4 ⟨rfl,H4,V4⟩
       clear RU q0 q4 q5 q6 q7 q8 q9
       have v4:=v3.tr V4
       have bx4:=V4.boxT bx3 T3 msg_imm
       have la4:=V4.la la3
       obtain ⟨q4,q5,q6,q7,q8,q9⟩:=hcs _ bx4
       clear S3 T3 la3 bx3 h3 v3 V4
       rcases Bool.eq_false_or_eq_true b with rfl | rfl
       ·have PK:=pack_any w4 m S4 col c H4 p.l (.agg #[.int .i64 3,.int .i64 0,.int .i64 0,.int .i64 0,.int .i64 mm.y.o,.int .i64 mm.y.s,.int .i64 mm.y.a,.bool mm.y.ov,.slice A2 mm.y.adj.length ca,.slice B2 mm.y.pre.length da]) ⟨3,0,0,0,mm.y⟩ ⟨A2,ca,B2,da,rfl,la4.1⟩
        unfold SndPost at PK
        rw [show ({ k:=3,n:=0,b:=S4.bo,h:=0,y:=mm.y }:Ms) = ⟨3,0,S.bo,0,mm.y⟩ by rw [hbo.out]] at PK
        obtain ⟨bz,hbz⟩:∃ bz,packB ⟨3,0,S.bo,0,mm.y⟩ = bz:=⟨_,rfl⟩
        rw [hbz] at PK
        replace PK:=Lib.hid PK
        go_wp2_with fail
        (with_reducible refine (PK.out).mono ?_)
        rintro e w5 ⟨A5,c5,rfl,ho5,hb5⟩
        clear PK q4 q5 q6 q7 q8 q9
        have hb6:=below_new' w5 (.cells #[.int .i64 p.l,.slice A5 bz.length c5] 148)
        have hsz:w.heap.size ≤ w4.heap.size:=v4.size
        have hsz5:w.heap.size ≤ w5.heap.size:=Nat.le_trans hsz hb5.size
        have hf:RecvPost w m col c R (.returned (.tuple #[.slice (some ⟨w5.heap.size,0,none⟩) 1 1,.int .i64 0])) (World.alloc w5 (.cells #[.int .i64 p.l,.slice A5 bz.length c5] 148)):=by
         rw [hR2.out]
         refine ⟨_,rfl,⟨_,1,[⟨p.l,A5,bz,c5⟩],rfl,own_lit2 w5 _ _ _ hsz5,fun s hs=>?_,?_⟩,SpTo.of ((H4.below hb5).below hb6) ((v4.tr (Eff.below hb5)).tr (Eff.below hb6))⟩
         ·rw [List.mem_singleton] at hs
          subst hs
          exact own_mono (own_below ho5 hb6) hsz
         ·simp [sentB,hbz]
        clear ho5 hb5 hb6 hsz hsz5 H4 v4 la4 bx4 hR2
        go_wp2_with fail
        go_ret2
        exact hf
       ·have hf:RecvPost w m col c R (.returned (.tuple #[.slice none 0 0,.int .i64 0])) w4:=by
         rw [hR2.out]
         exact ⟨_,rfl,snds_nil _ _,SpTo.of H4 v4⟩
        clear H4 v4 la4 bx4 hR2 q4 q5 q6 q7 q8 q9
        go_wp2_with fail
        go_ret2
        exact hf
      ·have e4:(mm.k == 2) = false:=by simp [hk3]
       have e5:(mm.k == 3) = true:=by simp [hk3]
       have hR2:=hR.out
       rw [hrec.out.2 (by omega)] at hR2
       replace hR2:=Lib.hid hR2
       replace hk3:=Lib.hid hk3
       clear hrec hR hk23
       go_upto_region 21 with fail
       obtain ⟨q4,q5,q6,q7,q8,q9⟩:=hcs _ bx3
       obtain ⟨ln,hln⟩:=Int.eq_ofNat_of_zero_le hpok.out.l.1
       have hln2:ln < 256:=by have:=hpok.out.l.2; omega
       have h4:=h3.below (w':=wc.drew) (Below.refl _ _).drew
       have SA:=sack_any wc.drew m S col c h4 ln hln2 _ mm.y ((Eff.below (E:=fun _=>False) (Below.refl wc.heap.size wc).drew).la la3).1 (wf64 (by have:=hva.out.1; omega) (by have:=hva.out.1; omega))
       rw [← hln] at SA
       have hR3:R = (({ S with fl:=ackL S.fl ln mm.y },[]),0):=by rw [hR2.out,hln]; rfl
       replace hR3:=Lib.hid hR3
       replace SA:=Lib.hid SA
       replace hln:=Lib.hid hln
       have k13:=h4.cs.c13
       refine wp_region_noPanic ?_
       refine wp_region_held_drew (S:=fun W=>W.cell? ⟨m.g,13,none⟩ = some (.pointer (some ⟨m.gf,0,none⟩)) ∧ (W.cell? ⟨kb,4,none⟩ = some (.int .i64 mm.y.o) ∧ W.cell? ⟨kb,5,none⟩ = some (.int .i64 mm.y.s) ∧ W.cell? ⟨kb,6,none⟩ = some (.int .i64 mm.y.a) ∧ W.cell? ⟨kb,7,none⟩ = some (.bool mm.y.ov) ∧ W.cell? ⟨kb,8,none⟩ = some (.slice A2 mm.y.adj.length ca) ∧ W.cell? ⟨kb,9,none⟩ = some (.slice B2 mm.y.pre.length da))) (by kernel_rfl) ⟨k13,q4,q5,q6,q7,q8,q9⟩ (fun hHeld=>?_)
       refine take_first (i:=0) (v:=?_) (some 73) rfl rfl (by kernel_rfl) (by kernel_rfl) (by kernel_rfl) (fun _ _ _ h=>h) (Or.inl ⟨by rfl,?_⟩) (by assumption) ?_
       rotate_left
       ·intro w hSw; (try dsimp only at hSw); go_simp; (try with_reducible rfl)
       try simp only [Act.put,List.setIfInBounds_toArray,List.set_cons_succ,List.set_cons_zero]
       refine take_first (i:=1) (v:=?_) (some 74) rfl rfl (by kernel_rfl) (by kernel_rfl) (by kernel_rfl) (fun _ _ _ h=>h) (Or.inl ⟨by rfl,?_⟩) (by assumption) ?_
       rotate_left
       ·intro w hSw; (try dsimp only at hSw); go_simp; (try with_reducible rfl)
       try simp only [Act.put,List.setIfInBounds_toArray,List.set_cons_succ,List.set_cons_zero]
       refine take_first (i:=2) (v:=?_) (some 75) rfl rfl (by kernel_rfl) (by kernel_rfl) (by kernel_rfl) (fun _ _ _ h=>h) (Or.inl ⟨by rfl,?_⟩) (by assumption) ?_
       rotate_left
       ·intro w hSw; (try dsimp only at hSw); go_simp; (try with_reducible rfl)
       try simp only [Act.put,List.setIfInBounds_toArray,List.set_cons_succ,List.set_cons_zero]
       refine take_first (i:=3) (v:=?_) (some 76) rfl rfl (by kernel_rfl) (by kernel_rfl) (by kernel_rfl) (fun _ _ _ h=>h) (Or.inl ⟨by rfl,?_⟩) (by assumption) ?_
       rotate_left
       ·intro w hSw; (try dsimp only at hSw); go_simp; (try with_reducible rfl)
       try simp only [Act.put,List.setIfInBounds_toArray,List.set_cons_succ,List.set_cons_zero]
       refine take_first (i:=4) (v:=?_) (some 77) rfl rfl (by kernel_rfl) (by kernel_rfl) (by kernel_rfl) (fun _ _ _ h=>h) (Or.inl ⟨by rfl,?_⟩) (by assumption) ?_
       rotate_left
       ·intro w hSw; (try dsimp only at hSw); go_simp; (try with_reducible rfl)
       try simp only [Act.put,List.setIfInBounds_toArray,List.set_cons_succ,List.set_cons_zero]
       refine take_first (i:=5) (v:=?_) (some 78) rfl rfl (by kernel_rfl) (by kernel_rfl) (by kernel_rfl) (fun _ _ _ h=>h) (Or.inl ⟨by rfl,?_⟩) (by assumption) ?_
       rotate_left
       ·intro w hSw; (try dsimp only at hSw); go_simp; (try with_reducible rfl)
       try simp only [Act.put,List.setIfInBounds_toArray,List.set_cons_succ,List.set_cons_zero]
       refine take_first (i:=6) (v:=?_) (some 79) rfl rfl (by kernel_rfl) (by kernel_rfl) (by kernel_rfl) (fun _ _ _ h=>h) (Or.inl ⟨by rfl,?_⟩) (by assumption) ?_
       rotate_left
       ·intro w hSw; (try dsimp only at hSw); go_simp; (try with_reducible rfl)
       try simp only [Act.put,List.setIfInBounds_toArray,List.set_cons_succ,List.set_cons_zero]
       refine wpAnyH_ready (rs:=[7]) (by kernel_rfl) (by simp) ?_
       refine AllReadyH.cons rfl (fun K hK=>?_) AllReadyH.nil
       go_simp
       (with_reducible refine (SA.out).mono ?_)
       rintro e w5 ⟨⟨b,r,rfl⟩,H5,V5⟩
       dsimp only
       have hf:RecvPost w m col c R (.returned (.tuple #[.slice none 0 0,.int .i64 0])) w5:=by
        rw [hR3.out]
        exact ⟨_,rfl,snds_nil _ _,SpTo.of H5 ((v3.tr (Eff.below (Below.refl _ _).drew)).tr V5)⟩
       refine hK.out _ _ ⟨H5.cs.c13,hcs _ (V5.boxT (bx3.later (Below.refl _ _).drew) T3 msg_imm)⟩ (fun hHeld=>?_)
       clear hK K hHeld H5 V5 SA k13 q4 q5 q6 q7 q8 q9 h4 bx3 S3 h3 v3 la3 hcs q0 hR2 hR3
       refine wpAnyH_done (by kernel_rfl) ?_ _
       refine NoPanic.normal ?_
       go_wp2_with fail
       go_ret2
       exact hf
  ·have e1:(E != 0) = true:=by simp [hE]
   have hf:RecvPost w m col c R (.returned (.tuple #[.slice none 0 0,.int .i64 E])) w2:=by
    rw [hu1.out hE]
    exact ⟨_,rfl,snds_nil _ _,SpTo.of h2.out v2.out⟩
   replace hE:=Lib.hid hE
   clear hu1 hu2 hu3 hmok
   go_wp2_with fail
   go_ret2
   exact hf
end Go.Proofs.YtehimhbgakpenaaGreat

namespace Go.Proofs.YtehimhbgakpenaaGreat
set_option linter.unusedVariables false
set_option linter.unusedSimpArgs false
open Go.RowKit Go.Maps Go.Sort
def TikPost (w:World) (m:Sm) (col:Nat → Nat) (c:Nat) (r:Sp × List (Int × Ms)) (e:Ending) (w':World):Prop:=∃ v,e = .returned v ∧ SndsAt w' w.heap.size v r.2 ∧ SpTo w m col c r.1 w'
theorem losB_next (ps:List Po) (k:Nat) (hk:k < ps.length):losB ps (k + 1) = (losB ps k || (He.evt ps[k].ph (He.tkP ps[k].ph ps[k].lf 1) == 2)):=by
 unfold losB
 rw [List.take_succ_eq_append_getElem hk,List.any_append]
 simp only [List.any_cons,List.any_nil,Bool.or_false]
 rfl
theorem int_imm:¬ MutT 3:=by unfold MutT; decide
theorem purF_next (nd:Int) (N:Db) (F:Fd.Fn) (l:List Int) (k:Nat) (hk:k < l.length):purF nd N F (l.take (k + 1)) = match getO N l[k] with | some h=>if l[k] ≠ nd then sprF (purF nd N F (l.take k)) h.x (-1) else purF nd N F (l.take k) | none=>purF nd N F (l.take k):=by
 unfold purF
 rw [List.take_succ_eq_append_getElem hk,List.foldl_append]
 rfl
theorem SpTo.trans {w w1 w2:World} {m:Sm} {S1 S2:Sp} {col:Nat → Nat} {c:Nat} (h:SpTo w m col c S1 w1) (h2:∀ m1 col1,SmEq m m1 → SpAt w1 m1 S1 col1 c → SpTo w1 m1 col1 c S2 w2):SpTo w m col c S2 w2:=by
 obtain ⟨m1,col1,e,hc,H,V⟩:=h
 exact SpTo.next V e hc (h2 m1 col1 e H)
theorem SndsAt.mono {w:World} {b b':Nat} {v:Value} {l:List (Int × Ms)} (h:SndsAt w b v l) (hb:b' ≤ b):SndsAt w b' v l:=by
 obtain ⟨A,c,ls,e,h1,h2,h3⟩:=h
 exact ⟨A,c,ls,e,own_mono h1 hb,fun s hs=>own_mono (h2 s hs) hb,h3⟩
set_option maxRecDepth 100000 in
set_option maxHeartbeats 12800000 in
theorem spTick_any (w:World) (m:Sm) (S:Sp) (col:Nat → Nat) (c:Nat) (h:SpAt w m S col c) (ok:SpOk S) (htm:S.tm ≤ 999999999) :
  Calls Tryz.prog 53 #[.pointer (some ⟨m.g,0,none⟩)] w (TikPost w m col c (ticS S)):=by
 have ok1:=ok.time
 obtain ⟨H1,V1⟩:=h.cell 8 (by omega) (.int .i64 (S.tm + 1)) (m':=m) (S':={ S with tm:=S.tm + 1 }) rfl rfl ⟨rfl,rfl,rfl,rfl,rfl,rfl⟩ ⟨rfl,rfl,rfl,rfl⟩ ⟨rfl,rfl,rfl,rfl,rfl,rfl,rfl⟩ h.rB h.lB
 have hA:tkA S = tk1 { S with tm:=S.tm + 1 } S.ps.length:=rfl
 obtain ⟨S1,hS1⟩:∃ S1:Sp,{ S with tm:=S.tm + 1 } = S1:=⟨_,rfl⟩
 have hps:S1.ps = S.ps:=by rw [← hS1]
 have c8:=h.cs.c8
 have f8:=h.bx.f 8 rfl
 have c9:=H1.cs.c9
 have htm0:=ok.tm
 have hpl:=ok.pl
 rw [hS1] at H1 ok1 hA
 have hto:Hid (SpTo w m col c (tk1 S1 0) (w.setCell ⟨m.g,8,none⟩ (.int .i64 (S.tm + 1)))):=SpTo.of H1 V1
 have hfs:=fun k=>tk1_fx S1 k
 rw [hps] at hfs
 replace hps:=Lib.hid hps
 replace hS1:=Lib.hid hS1
 replace ok:=Lib.hid ok
 replace ok1:=Lib.hid ok1
 replace hA:=Lib.hid hA
 replace hfs:=Lib.hid hfs
 have hl0:losB S.ps 0 = false:=rfl
 clear h H1 V1
 go_enter Tryz.func53,Tryz.ntmps53
 go_wp2_with fail
 clear c8 f8 c9
 go_loopw [3,24] (fun v3 v24 wr=>∃ (i:Nat),v3 = .bool (losB S.ps i) ∧ v24 = .int .i64 i ∧ i ≤ S.ps.length ∧ Hid (SpTo w m col c (tk1 S1 i) wr)) (fun _ v24 _=>S.ps.length - (intOf v24).toNat)
 case atStart=>exact ⟨0,by rw [hl0],rfl,by omega,hto⟩
 case round =>
  clear hto hl0
  obtain ⟨i,rfl,rfl,hi,hto⟩:=hrel
  by_cases hin:i < S.ps.length
  ·obtain ⟨m1,col1,eq,hcc,H,V⟩:=hto.out
   have hil:i < (tk1 S1 i).ps.length:=by rw [(hfs.out i).1]; exact hin
   have hpi:(tk1 S1 i).ps[i] = S.ps[i]:=by
    have:=tk1_at (S:=S1) (k:=i) (by rw [hps.out]; exact hin)
    rw [this]
    simp only [hps.out]
   have oki:=ok1.out.tk i
   have fo:=oki.fo hil 0 0
   have hnx:=tk1_next (S:=S1) (k:=i) (by rw [hps.out]; exact hin)
   rw [hpi] at hnx
   have hlos:=losB_next S.ps i hin
   obtain ⟨gp,hP,hc⟩:=H.gp (by omega)
   have c9:=H.cs.c9
   rw [hP] at c9
   rw [eq.1] at c9
   have hvl:=fo.st
   have hll:=fo.l
   have hup:=fo.up
   rw [hpi] at hvl hll hup
   have FT:=followT wr m1 (tk1 S1 i) col1 c H fo.db fo.va gp hP i hil S.ps[i] hpi hll hup (He.tkP S.ps[i].ph S.ps[i].lf 1) (He.tkL S.ps[i].ph S.ps[i].lf 1) (fun W _=>tck1_any S.ps[i].ph S.ps[i].lf W hvl)
   rw [eq.1,← hnx] at FT
   have hlen:(tk1 S1 i).ps.length = S.ps.length:=(hfs.out i).1
   rw [hlen] at c9
   obtain ⟨p,hp⟩:∃ p,S.ps[i] = p:=⟨_,rfl⟩
   rw [hp] at FT hlos
   generalize He.evt p.ph (He.tkP p.ph p.lf 1) = ev at *
   have hfin:Hid (∀ W,SpTo wr m1 col1 c (tk1 S1 (i + 1)) W → SpTo w m col c (tk1 S1 (i + 1)) W):=fun W h2=>SpTo.next V eq hcc h2
   have heb:∃ eb,(ev == 2) = eb:=⟨_,rfl⟩
   obtain ⟨eb,heb⟩:=heb
   rw [heb] at hlos
   replace FT:=Lib.hid FT
   replace hlos:=Lib.hid hlos
   clear H V hc hcc eq hvl hll hup fo oki hpi hnx hlen hp hto
   go_wp2_with fail
   (with_reducible refine (FT.out).mono ?_)
   rintro e w3 ⟨rfl,h3⟩
   clear FT c9
   have h4:=Lib.hid (hfin.out _ h3)
   clear h3 hfin
   obtain ⟨l0,hl0⟩:∃ l0,losB S.ps i = l0:=⟨_,rfl⟩
   have hlos2:=hlos.out
   rw [hl0] at hlos2 ⊢
   replace hlos2:=Lib.hid hlos2
   clear hlos hl0
   rcases Bool.eq_false_or_eq_true l0 with rfl | rfl
   ·go_wp2_with fail
    go_round
    case rel=>exact ⟨i + 1,by rw [hlos2.out]; rfl,by go_num,by omega,h4⟩
    case measure=>simp [intOf]; omega
   ·go_wp2_with fail
    go_round
    case rel=>exact ⟨i + 1,by rw [hlos2.out]; rfl,by go_num,by omega,h4⟩
    case measure=>simp [intOf]; omega
  ·have hii:i = S.ps.length:=by omega
   have e1:decide ((i:Int) < (S.ps.length:Int)) = false:=by simp; omega
   have hto2:Hid (SpTo w m col c (tkA S) wr):=by
    have:=hto.out
    rw [hii,← hA.out] at this
    exact this
   have hlo:losB S.ps i = losB S.ps S.ps.length:=by rw [hii]
   rw [hlo]
   have hB1:Hid (losB S.ps S.ps.length = true → tkB S = origS (tkA S)):=fun e=>by unfold tkB; rw [if_pos e]
   have hB2:Hid (losB S.ps S.ps.length = false → tkB S = tkA S):=fun e=>by unfold tkB; rw [if_neg (by rw [e]; simp)]
   obtain ⟨lb,hlb⟩:∃ lb,losB S.ps S.ps.length = lb:=⟨_,rfl⟩
   rw [hlb] at hB1 hB2 ⊢
   clear hlb hlo hto hii hA hfs hps hS1
   go_upto_if 41 with fail
   go_cut [] (fun wx=>SpTo w m col c (tkB S) wx)
   case first =>
    rcases Bool.eq_false_or_eq_true lb with rfl | rfl
    ·have okA:=ok.out.tA
     have hb:=hB1.out rfl
     obtain ⟨m1,col1,eq,hcc,H,V⟩:=hto2.out
     have g:=okA.og
     have OG:=originate_any wr m1 (tkA S) col1 c H g.pl g.pr g.s0 g.s1 g.x1 g.x2
     rw [eq.1] at OG
     have hfin:Hid (∀ W,SpPost wr m1 col1 c (origS (tkA S)) (.tuple #[]) (.returned (.tuple #[])) W → SpTo w m col c (tkB S) W):=fun W h2=>by
      rw [hb]
      exact ⟨m1,col1,eq,hcc,h2.2.1,ev_trans V h2.2.2 hcc⟩
     replace OG:=Lib.hid OG
     clear H V g hb hto2 okA eq hcc
     go_wp2_with fail
     (with_reducible refine (OG.out).mono ?_)
     rintro e w9 P9
     obtain ⟨rfl,P8⟩:=P9
     have hf:=hfin.out w9 ⟨rfl,P8⟩
     clear OG P8 hfin
     go_wp2_with fail
     go_meet
     exact hf
    ·have hb:=hB2.out rfl
     go_wp2_with fail
     go_meet
     rw [hb]
     exact hto2.out
   case rest =>
    clear hto2 hB1 hB2
    obtain ⟨m2,col2,eq2,hcc2,H2,V2⟩:=hcut
    have okB:=ok.out.tB
    have hnd:(tkB S).nd = S.nd:=by
     unfold tkB tkA
     split
     ·rw [(origS_ps _).2.1,(tk1_fx _ _).2.1]
     ·rw [(tk1_fx _ _).2.1]
    have hC:tkC S = { tkB S with db:=tickN 1 (tkB S).db,fl:=purF S.nd (tickN 1 (tkB S).db) (tkB S).fl ((tickL 1 (tkB S).db).take (tickL 1 (tkB S).db).length) }:=by
     rw [List.take_length]; rfl
    have okD:=ok.out.tC
    have hL64:∀ n ∈ tickL 1 (tkB S).db,0 ≤ n ∧ n < 64:=fun n hn=>by
     unfold tickL at hn
     exact ((orgs_mem n).1 (List.mem_filter.1 hn).1).1
    have hLl:(tickL 1 (tkB S).db).length ≤ 64:=by
     unfold tickL
     refine Nat.le_trans (List.length_filter_le _ _) (orgs_len _)
    have okCk:∀ k,SpOk { tkB S with db:=tickN 1 (tkB S).db,fl:=purF S.nd (tickN 1 (tkB S).db) (tkB S).fl ((tickL 1 (tkB S).db).take k) }:=fun k=>by
     obtain ⟨a,b⟩:=purF_ok S.nd (tickN 1 (tkB S).db) ((tickL 1 (tkB S).db).take k) _ okB.fl
     exact okB.dbf (tickN_ok okB.db (by omega)) (tickN_dz okB.dz 1) a b
    have DT:=dtick_any wc m2.gd m2.bd (tkB S).db 1 H2.db okB.db okB.dz (by omega) (by omega)
    unfold DTickPost at DT
    have hdok:=tickN_ok okB.db (n:=1) (by omega)
    have c12:=H2.cs.c12
    rw [eq2.1] at c12
    generalize tickL 1 (tkB S).db = L at *
    generalize tickN 1 (tkB S).db = N at *
    obtain ⟨SB,hSB⟩:∃ SB,tkB S = SB:=⟨_,rfl⟩
    rw [hSB] at H2 hC okCk okB hnd
    replace DT:=Lib.hid DT
    replace hC:=Lib.hid hC
    replace okD:=Lib.hid okD
    replace okB:=Lib.hid okB
    replace okCk:=Lib.hid okCk
    replace hL64:=Lib.hid hL64
    replace hdok:=Lib.hid hdok
    replace hSB:=Lib.hid hSB
    replace hnd:=Lib.hid hnd
    go_wp2_with fail
    (with_reducible refine (DT.out).mono ?_)
    rintro e w3 ⟨v3,rfl,hrow,hD3,hg3⟩
    clear DT c12
    obtain ⟨H3,V3⟩:=H2.dbTurn hg3 hD3
    obtain ⟨A3,c3,rfl,-⟩:=own_rd hrow
    obtain ⟨SC,hSC⟩:∃ SC:Nat → Sp,∀ k,SC k = { SB with db:=N,fl:=purF S.nd N SB.fl (L.take k) }:=⟨fun k=>_,fun _=>rfl⟩
    have hdb:∀ k,(SC k).db = N:=fun k=>by rw [hSC]
    have hndC:∀ k,(SC k).nd = S.nd:=fun k=>by rw [hSC]; exact hnd.out
    have hnxt:∀ k (hk:k < L.length),SC (k + 1) = match getO N L[k] with | some x=>if L[k] ≠ S.nd then { SC k with fl:=sprF (SC k).fl x.x (-1) } else SC k | none=>SC k:=fun k hk=>by
     rw [hSC,hSC,purF_next _ _ _ _ _ hk]
     split
     ·split <;> rfl
     ·rfl
    have hC2:tkC S = SC L.length:=by rw [hSC,← hC.out]
    have hok:=fun k=>okCk.out k
    have h0:SC 0 = { SB with db:=N }:=by rw [hSC]; rfl
    have hokk:∀ k,SpOk (SC k):=fun k=>by rw [hSC]; exact hok k
    have hto:Hid (SpTo w m col c (SC 0) w3):=by
     rw [h0]
     exact ⟨m2,col2,eq2,hcc2,H3,ev_trans V2 V3 hcc2⟩
    obtain ⟨nL,hnL⟩:∃ nL,L.length = nL:=⟨_,rfl⟩
    rw [hnL] at hC2 hLl ⊢
    have hrow3:w3.ownsRow 0 3 1 (.slice A3 nL c3) nL (L.map encZ):=by rw [← hnL]; exact own_mono hrow (by omega)
    replace hrow3:=Lib.hid hrow3
    replace hnL:=Lib.hid hnL
    replace hdb:=Lib.hid hdb
    replace hndC:=Lib.hid hndC
    replace hnxt:=Lib.hid hnxt
    replace hC2:=Lib.hid hC2
    replace hokk:=Lib.hid hokk
    clear hok h0 hSC hD3 hg3 H3 V3 hrow H2 V2 hcc2 eq2 hC okCk okB hSB hnd e1 ok1
    go_wp2_with fail
    go_loopw [50] (fun v50 wr=>∃ (k:Nat),v50 = .int .i64 k ∧ k ≤ nL ∧ Hid (SpTo w m col c (SC k) wr) ∧ Hid (wr.ownsRow 0 3 1 (.slice A3 nL c3) nL (L.map encZ))) (fun v50 _=>nL - (intOf v50).toNat)
    case atStart=>exact ⟨0,rfl,by omega,hto,hrow3⟩
    case round =>
     clear hto hrow3
     obtain ⟨k,rfl,hk,hto,hrow⟩:=hrel
     by_cases hkn:k < nL
     ·have hkl:k < L.length:=by rw [hnL.out]; exact hkn
      obtain ⟨b3,off3,rfl,hc3⟩:=rd_at (own_slice hrow.out) (by rw [List.length_map]; omega)
      have hz:=hc3 k (.int .i64 L[k]) (by rw [List.getElem?_map,List.getElem?_eq_getElem hkl]; rfl)
      have hn64:=hL64.out L[k] (List.getElem_mem hkl)
      have hnx:=hnxt.out k hkl
      obtain ⟨z,hzz⟩:∃ z,L[k] = z:=⟨_,rfl⟩
      rw [hzz] at hz hn64 hnx
      clear hzz hc3
      obtain ⟨m4,col4,eq4,hcc4,H4,V4⟩:=hto.out
      have hD4:=H4.db
      rw [hdb.out k] at hD4
      have GT:=dget_any wr m4.gd m4.bd N z (wf64 (by omega) (by omega)) hD4 hdok.out.few
      unfold GetPost at GT
      obtain ⟨hd,hhd⟩:∃ hd,getO N z = hd:=⟨_,rfl⟩
      rw [hhd] at GT hnx
      have c12:=H4.cs.c12
      rw [eq4.1] at c12
      replace GT:=Lib.hid GT
      replace hnx:=Lib.hid hnx
      clear hhd hD4 hto
      go_wp2_with fail
      (with_reducible refine (GT.out).mono ?_)
      rintro e w5 ⟨v5,rfl,hown,hb5⟩
      obtain ⟨A5,a5,B5,d5,rfl⟩:=hown.at.form
      clear GT c12 hz
      have hb6:=below_new' w5 (.cells #[.int .i64 (getX hd).o,.int .i64 (getX hd).s,.int .i64 (getX hd).a,.bool (getX hd).ov,.slice A5 (getX hd).adj.length a5,.slice B5 (getX hd).pre.length d5] 41)
      have S6:=((St.start w5).new' #[.int .i64 (getX hd).o,.int .i64 (getX hd).s,.int .i64 (getX hd).a,.bool (getX hd).ov,.slice A5 (getX hd).adj.length a5,.slice B5 (getX hd).pre.length d5] 41 w5.heap.size _ rfl rfl)
      have T6:=ty_new w5 #[.int .i64 (getX hd).o,.int .i64 (getX hd).s,.int .i64 (getX hd).a,.bool (getX hd).ov,.slice A5 (getX hd).adj.length a5,.slice B5 (getX hd).pre.length d5] 41
      have L6:=(hown.below hb6).at
      have H6:=(H4.below hb5).below hb6
      have V6:=(V4.tr (Eff.below hb5)).tr (Eff.below (E:=fun k=>col k = c) hb6)
      have hrow6:=own_below (own_below hrow.out hb5) hb6
      generalize hgb:hd.isSome = gb
      replace hgb:=Lib.hid hgb
      go_upto_region 17 with fail
      generalize hw6:World.alloc w5 _ = w6 at *
      clear hw6 hb5 hb6 hown H4 V4 hrow
      generalize w5.heap.size = kb at *
      have k3:=H6.cs.c3
      rw [hndC.out k,eq4.1] at k3
      have hskip:Hid ((gb = false ∨ z = S.nd) → SpTo w m col c (SC (k + 1)) w6):=fun hc=>by
       have:SC (k + 1) = SC k:=by
        rw [hnx.out]
        cases hd with
        | none=>rfl
        | some x =>
          rcases hc with hc | hc
          ·rw [← hgb.out] at hc; cases hc
          ·simp only [hc,ne_eq,not_true_eq_false,if_false]
       rw [this]
       exact ⟨m4,col4,eq4,hcc4,H6,V6⟩
      rcases Bool.eq_false_or_eq_true gb with rfl | rfl
      ·obtain ⟨nb,hnb⟩:∃ nb,(z != S.nd) = nb:=⟨_,rfl⟩
       rcases Bool.eq_false_or_eq_true nb with rfl | rfl
       ·have hdn:∃ x,hd = some x:=Option.isSome_iff_exists.1 hgb.out
        obtain ⟨x,rfl⟩:=hdn
        have hzn:z ≠ S.nd:=by simpa using hnb
        have hn2:SC (k + 1) = { SC k with fl:=sprF (SC k).fl x.x (-1) }:=by
         rw [hnx.out]
         simp only [if_pos hzn]
        have H7:=H6.below (w':=w6.drew) (Below.refl _ _).drew
        have SP:=spr_any w6.drew m4 (SC k) col4 c H7 (.agg #[.int .i64 x.x.o,.int .i64 x.x.s,.int .i64 x.x.a,.bool x.x.ov,.slice A5 x.x.adj.length a5,.slice B5 x.x.pre.length d5]) x.x (L6.below (Below.refl _ _).drew) (-1)
        rw [← hn2] at SP
        have k13:=H7.cs.c13
        rw [eq4.1] at k13
        replace SP:=Lib.hid SP
        clear hskip hzn hn2
        have bx:=S6.box 0 rfl
        have hcs:∀ W,Box W kb [.int .i64 x.x.o,.int .i64 x.x.s,.int .i64 x.x.a,.bool x.x.ov,.slice A5 x.x.adj.length a5,.slice B5 x.x.pre.length d5] → (W.cell? ⟨kb,0,none⟩ = some (.int .i64 x.x.o) ∧ W.cell? ⟨kb,1,none⟩ = some (.int .i64 x.x.s) ∧ W.cell? ⟨kb,2,none⟩ = some (.int .i64 x.x.a) ∧ W.cell? ⟨kb,3,none⟩ = some (.bool x.x.ov) ∧ W.cell? ⟨kb,4,none⟩ = some (.slice A5 x.x.adj.length a5) ∧ W.cell? ⟨kb,5,none⟩ = some (.slice B5 x.x.pre.length d5)):=fun W h=>⟨h.c 0 rfl,h.c 1 rfl,h.c 2 rfl,h.c 3 rfl,h.c 4 rfl,h.c 5 rfl⟩
        have hcs6:=hcs _ bx
        go_upto_region 18 with fail
        refine wp_region_noPanic ?_
        refine wp_region_held_drew (S:=fun W=>W.cell? ⟨m.g,13,none⟩ = some (.pointer (some ⟨m4.gf,0,none⟩)) ∧ (W.cell? ⟨kb,0,none⟩ = some (.int .i64 x.x.o) ∧ W.cell? ⟨kb,1,none⟩ = some (.int .i64 x.x.s) ∧ W.cell? ⟨kb,2,none⟩ = some (.int .i64 x.x.a) ∧ W.cell? ⟨kb,3,none⟩ = some (.bool x.x.ov) ∧ W.cell? ⟨kb,4,none⟩ = some (.slice A5 x.x.adj.length a5) ∧ W.cell? ⟨kb,5,none⟩ = some (.slice B5 x.x.pre.length d5))) (by kernel_rfl) ⟨k13,hcs6⟩ (fun hHeld=>?_)
        refine take_first (i:=0) (v:=?_) (some 72) rfl rfl (by kernel_rfl) (by kernel_rfl) (by kernel_rfl) (fun _ _ _ h=>h) (Or.inl ⟨by rfl,?_⟩) (by assumption) ?_
        rotate_left
        ·intro w hSw; (try dsimp only at hSw); go_simp; (try with_reducible rfl)
        try simp only [Act.put,List.setIfInBounds_toArray,List.set_cons_succ,List.set_cons_zero]
        refine take_first (i:=1) (v:=?_) (some 73) rfl rfl (by kernel_rfl) (by kernel_rfl) (by kernel_rfl) (fun _ _ _ h=>h) (Or.inl ⟨by rfl,?_⟩) (by assumption) ?_
        rotate_left
        ·intro w hSw; (try dsimp only at hSw); go_simp; (try with_reducible rfl)
        try simp only [Act.put,List.setIfInBounds_toArray,List.set_cons_succ,List.set_cons_zero]
        refine take_first (i:=2) (v:=?_) (some 74) rfl rfl (by kernel_rfl) (by kernel_rfl) (by kernel_rfl) (fun _ _ _ h=>h) (Or.inl ⟨by rfl,?_⟩) (by assumption) ?_
        rotate_left
        ·intro w hSw; (try dsimp only at hSw); go_simp; (try with_reducible rfl)
        try simp only [Act.put,List.setIfInBounds_toArray,List.set_cons_succ,List.set_cons_zero]
        refine take_first (i:=3) (v:=?_) (some 75) rfl rfl (by kernel_rfl) (by kernel_rfl) (by kernel_rfl) (fun _ _ _ h=>h) (Or.inl ⟨by rfl,?_⟩) (by assumption) ?_
        rotate_left
        ·intro w hSw; (try dsimp only at hSw); go_simp; (try with_reducible rfl)
        try simp only [Act.put,List.setIfInBounds_toArray,List.set_cons_succ,List.set_cons_zero]
        refine take_first (i:=4) (v:=?_) (some 76) rfl rfl (by kernel_rfl) (by kernel_rfl) (by kernel_rfl) (fun _ _ _ h=>h) (Or.inl ⟨by rfl,?_⟩) (by assumption) ?_
        rotate_left
        ·intro w hSw; (try dsimp only at hSw); go_simp; (try with_reducible rfl)
        try simp only [Act.put,List.setIfInBounds_toArray,List.set_cons_succ,List.set_cons_zero]
        refine wpAnyH_ready (rs:=[5]) (by kernel_rfl) (by simp) ?_
        refine AllReadyH.cons rfl (fun K hK=>?_) AllReadyH.nil
        go_simp
        (with_reducible refine (SP.out).mono ?_)
        rintro e w8 ⟨⟨rr,rfl⟩,H8,V8⟩
        dsimp only
        have k13':=H8.cs.c13
        rw [eq4.1] at k13'
        refine hK.out _ _ ⟨k13',hcs _ (V8.boxT (bx.later (Below.refl _ _).drew) T6 lsa_imm)⟩ (fun hHeld=>?_)
        clear hK K
        have hto8:Hid (SpTo w m col c (SC (k + 1)) w8):=⟨m4,col4,eq4,hcc4,H8,ev_trans (V6.tr (Eff.below (Below.refl _ _).drew)) V8 hcc4⟩
        have hrow8:Hid (w8.ownsRow 0 3 1 (.slice (some ⟨b3,off3,none⟩) nL c3) nL (L.map encZ)):=V8.own (own_below hrow6 (Below.refl _ _).drew) int_imm
        refine wpAnyH_done (by kernel_rfl) ?_ _
        refine NoPanic.normal ?_
        clear hHeld H8 V8 SP k13 k13' hcs hcs6 bx H7 H6 V6 hrow6 L6 T6 S6 k3
        go_wp2_with fail
        go_round
        case rel=>exact ⟨k + 1,by go_num,by omega,hto8,hrow8⟩
        case measure=>simp [intOf]; omega
       ·have hto8:=Lib.hid (hskip.out (.inr (by simpa using hnb)))
        replace hrow6:=Lib.hid hrow6
        replace hnb:=Lib.hid hnb
        clear hskip H6 V6 L6 T6 S6
        have e9:(z != S.nd) = false:=hnb.out
        go_wp2_with fail
        go_round
        case rel=>exact ⟨k + 1,by go_num,by omega,hto8,hrow6⟩
        case measure=>simp [intOf]; omega
      ·have hto8:=Lib.hid (hskip.out (.inl rfl))
       replace hrow6:=Lib.hid hrow6
       clear hskip H6 V6 L6 T6 S6
       go_wp2_with fail
       go_round
       case rel=>exact ⟨k + 1,by go_num,by omega,hto8,hrow6⟩
       case measure=>simp [intOf]; omega
     ·have hkk:k = nL:=by omega
      have e1:decide ((k:Int) < (nL:Int)) = false:=by simp; omega
      have hto2:Hid (SpTo w m col c (tkC S) wr):=by
       have:=hto.out
       rw [hkk,← hC2.out] at this
       exact this
      clear hto hrow hkk hnxt hndC hdb hokk hC2 hL64 hdok hnL
      obtain ⟨m4,col4,eq4,hcc4,H4,V4⟩:=hto2.out
      have OT:=otick_keep wr m4.go (tkC S).x (tkC S).md 1 H4.og (by omega) okD.out.xs.1 okD.out.xs.2 okD.out.xa.1 okD.out.xa.2
      unfold TickKeep TickPost at OT
      have k14:=H4.cs.c14
      rw [eq4.1] at k14
      have hD1:tickB (tkC S).x (tkC S).md 1 = true → tkD S = pubS { tkC S with x:=tickX (tkC S).x (tkC S).md 1 }:=fun e=>by unfold tkD; rw [if_pos e]
      have hD2:tickB (tkC S).x (tkC S).md 1 = false → tkD S = { tkC S with x:=tickX (tkC S).x (tkC S).md 1 }:=fun e=>by unfold tkD; rw [if_neg (by rw [e]; simp)]
      have hxx:=okD.out.xk.tick
      have hmm:(tkC S).md = true:=okD.out.xm
      rw [← hmm] at hxx
      replace hmm:=Lib.hid hmm
      have hxl:=hxx.l
      obtain ⟨tb,htb⟩:∃ tb,tickB (tkC S).x (tkC S).md 1 = tb:=⟨_,rfl⟩
      rw [htb] at OT hD1 hD2
      replace OT:=Lib.hid OT
      replace hD1:=Lib.hid hD1
      replace hD2:=Lib.hid hD2
      clear htb hxx hto2
      go_wp2_with fail
      (with_reducible refine (OT.out).mono ?_)
      rintro e w5 ⟨⟨rfl,hO5,hg5⟩,hk5⟩
      clear OT k14
      obtain ⟨H5,V5⟩:=H4.ogTurn hg5 hO5 hk5
      have hto5:SpTo w m col c { tkC S with x:=tickX (tkC S).x (tkC S).md 1 } w5:=⟨m4,col4,eq4,hcc4,H5,ev_trans V4 V5 hcc4⟩
      have V45:=ev_trans V4 V5 hcc4
      replace hto5:=Lib.hid hto5
      clear hO5 hg5 hk5
      go_upto_if 83 with fail
      go_cut [] (fun wx=>SpTo w m col c (tkD S) wx)
      case first =>
       rcases Bool.eq_false_or_eq_true tb with rfl | rfl
       ·have hb:=hD1.out rfl
        have PB:=publish_any w5 m4 _ col4 c H5 (by simp only; omega) (by simp only; omega)
        rw [eq4.1] at PB
        have hfin:Hid (∀ W,SpPost w5 m4 col4 c (pubS { tkC S with x:=tickX (tkC S).x (tkC S).md 1 }) (.tuple #[]) (.returned (.tuple #[])) W → SpTo w m col c (tkD S) W):=fun W h2=>by
         rw [hb]
         exact ⟨m4,col4,eq4,hcc4,h2.2.1,ev_trans V45 h2.2.2 hcc4⟩
        replace PB:=Lib.hid PB
        replace hb:=Lib.hid hb
        clear H5 V5 V45 H4 V4 hto5 hcc4 eq4
        go_wp2_with fail
        (with_reducible refine (PB.out).mono ?_)
        rintro e w9 P9
        obtain ⟨rfl,P8⟩:=P9
        have hf:=hfin.out w9 ⟨rfl,P8⟩
        clear PB P8 hfin
        go_wp2_with fail
        go_meet
        exact hf
       ·have hb:=hD2.out rfl
        go_wp2_with fail
        go_meet
        rw [hb]
        exact hto5.out
      case rest =>
       clear hto5 V45 H5 V5 H4 V4 hcc4 eq4 hD1 hD2
       obtain ⟨m6,col6,eq6,hcc6,H6,V6⟩:=hcut
       have okT:=ok.out.tD
       have okE:=ok.out.tE
       have FT:=Fd.ftick_any wc m6.gf m6.bf (tkD S).h3 (tkD S).fl m6.ff H6.fl okT.fl 1 (by omega)
       unfold Fd.TickPost at FT
       have k13:=H6.cs.c13
       rw [eq6.1] at k13
       have htE:(tkE S).tm = S.tm + 1:=by
        have h1:(tkB S).tm = S.tm + 1:=by
         unfold tkB tkA
         split
         ·rw [(origS_ps _).2.2.2.2.1,(tk1_fx _ _).2.2.2.2.1]
         ·rw [(tk1_fx _ _).2.2.2.2.1]
        have h2:(tkD S).tm = (tkC S).tm:=by
         unfold tkD
         split <;> rfl
        show (tkD S).tm = S.tm + 1
        rw [h2]
        exact h1
       replace FT:=Lib.hid FT
       go_wp2_with fail
       (with_reducible refine (FT.out).mono ?_)
       rintro e w7 ⟨rfl,hF7,hk7⟩
       clear FT k13
       obtain ⟨H7,V7⟩:=H6.flTurn hk7 hF7 (fun l=>by unfold Fd.tikN; simp)
       have SN:=send_any w7 m6 (tkE S) col6 c H7 okE (by rw [htE]; omega)
       rw [eq6.1] at SN
       unfold SendPost at SN
       have V67:=ev_trans V6 V7 hcc6
       replace SN:=Lib.hid SN
       clear hF7 hk7 H6 V6 V7 H7 okT okE htE
       go_wp2_with fail
       (with_reducible refine (SN.out).mono ?_)
       rintro e w8 ⟨v8,rfl,hs8,H8,V8⟩
       have hf:TikPost w m col c (ticS S) (.returned v8) w8:=⟨v8,rfl,hs8.mono V67.size,⟨m6,col6,eq6,hcc6,H8,ev_trans V67 V8 hcc6⟩⟩
       clear SN hs8 H8 V8 V67
       go_wp2_with fail
       go_ret
       exact hf
end Go.Proofs.YtehimhbgakpenaaGreat
