/-
  The texts Np7, Np8, one after the other.
-/
import Derived.Test.YtehimhbgakpenaaGreatQPWith45
import Derived.Test.YtehimhbgakpenaaGreatQPWith48
import Derived.Test.YtehimhbgakpenaaGreatQPWith47
import Derived.Test.YtehimhbgakpenaaGreatQPWith50
import Derived.Test.YtehimhbgakpenaaGreatQPWith51
namespace Go.Proofs.YtehimhbgakpenaaGreat
set_option linter.unusedVariables false
set_option linter.unusedSimpArgs false
open Go.RowKit Go.Maps Go.Sort
def ptj (t:Tp) (j:Nat):Po:=poP (ptI t (j:Int))
theorem ports_eq (t:Tp) (z:Int):((outs t z).map (ptI t)).map poP = ((List.range (2 * t.ln.length)).filter fun i=>decide (tlI t.ln i = z)).map (ptj t):=by
 unfold outs outK
 rw [List.map_map,List.map_map]
 rfl
theorem ptj_l (t:Tp) (j:Nat):(ptj t j).l = ((j / 2:Nat):Int):=by
 show (j:Int) / 2 = _
 omega
theorem ptj_at {t:Tp} {j i:Nat} (hj:j < 2 * t.ln.length) (h:tlI t.ln j = (i:Int)):∃ x,t.ln[j / 2]? = some x ∧ ((j % 2 = 0 ∧ x.a = i ∧ (ptj t j).o = x.b ∧ (ptj t j).c = x.c) ∨ (j % 2 = 1 ∧ x.b = i ∧ (ptj t j).o = x.a ∧ (ptj t j).c = x.d)):=by
 have hk:j / 2 < t.ln.length:=by omega
 have he:t.ln[j / 2]? = some t.ln[j / 2]:=List.getElem?_eq_getElem hk
 refine ⟨t.ln[j / 2],he,?_⟩
 unfold tlI at h
 rw [he] at h
 have e1:(ptj t j).o = tailL t.ln[j / 2] (!decide (j % 2 = 1)):=by
  show hdI t.ln (j:Int).toNat = _
  rw [Int.toNat_natCast]; unfold hdI; rw [he]
 have e2:(ptj t j).c = costL t.ln[j / 2] (decide (j % 2 = 1)):=by
  show coI t.ln (j:Int).toNat = _
  rw [Int.toNat_natCast]; unfold coI; rw [he]
 rw [e1,e2]
 simp only at h
 by_cases hp:j % 2 = 1
 ·right
  simp only [hp,decide_true,tailL,costL] at h ⊢
  simp at h ⊢
  exact h
 ·left
  simp only [hp,decide_false,tailL,costL] at h ⊢
  simp at h ⊢
  exact ⟨by omega,h⟩
theorem ports_st {t:Tp} (hT:TpOk t) (i:Nat):PoSt t i (((outs t i).map (ptI t)).map poP):=by
 rw [ports_eq]
 refine ⟨fun p hp=>?_,fun k x hx hi=>?_,?_⟩
 ·obtain ⟨j,hj,rfl⟩:=List.mem_map.1 hp
  rw [List.mem_filter,List.mem_range,decide_eq_true_eq] at hj
  obtain ⟨x,h1,h2⟩:=ptj_at hj.1 hj.2
  rw [ptj_l,Int.toNat_natCast]
  refine ⟨by omega,x,h1,?_⟩
  rcases h2 with ⟨_,a,b,c⟩ | ⟨_,a,b,c⟩
  ·exact .inl ⟨a,b,c⟩
  ·exact .inr ⟨a,b,c⟩
 ·have hk:k < t.ln.length:=(List.getElem?_eq_some_iff.1 hx).1
  rcases hi with hi | hi
  ·refine ⟨ptj t (2 * k),List.mem_map.2 ⟨2 * k,?_,rfl⟩,by rw [ptj_l]; omega⟩
   rw [List.mem_filter,List.mem_range,decide_eq_true_eq]
   refine ⟨by omega,?_⟩
   unfold tlI
   rw [show 2 * k / 2 = k by omega,hx]
   simp only [tailL]
   rw [if_neg (by simp)]
   exact hi
  ·refine ⟨ptj t (2 * k + 1),List.mem_map.2 ⟨2 * k + 1,?_,rfl⟩,by rw [ptj_l]; omega⟩
   rw [List.mem_filter,List.mem_range,decide_eq_true_eq]
   refine ⟨by omega,?_⟩
   unfold tlI
   rw [show (2 * k + 1) / 2 = k by omega,hx]
   simp only [tailL]
   rw [if_pos (by simp)]
   exact hi
 ·rw [List.pairwise_map]
  refine List.Pairwise.imp_of_mem (fun {a b} ha hb hab=>?_) (List.pairwise_lt_range.filter _)
  rw [List.mem_filter,List.mem_range,decide_eq_true_eq] at ha hb
  rw [ptj_l,ptj_l]
  obtain ⟨x,h1,h2⟩:=ptj_at ha.1 ha.2
  obtain ⟨y,h3,h4⟩:=ptj_at hb.1 hb.2
  rcases Nat.lt_or_ge (a / 2) (b / 2) with h5 | h5
  ·omega
  ·have e:a / 2 = b / 2:=by omega
   rw [e,h3] at h1
   injection h1 with h1
   subst h1
   have:=(lk_ok hT h3).ne
   omega
theorem ports_zero {t:Tp} {z:Int} {p:Po} (h:p ∈ ((outs t z).map (ptI t)).map poP):PoIs p 0 0 0:=by
 obtain ⟨q,hq,rfl⟩:=List.mem_map.1 h
 exact ⟨rfl,rfl,rfl⟩
theorem adj_zero {ps:List Po} (h:∀ p ∈ ps,PoIs p 0 0 0):adjS ps = []:=by
 unfold adjS
 rw [List.filterMap_eq_nil_iff]
 intro p hp
 rw [(h p hp).1]
 simp
theorem spr_none (a:La) (z:Int):sprF Fn0 a z = Fn0:=by
 unfold sprF
 split
 ·rfl
 ·rfl
theorem newS_eq {t:Tp} {z:Int} (h0:0 ≤ z) (h1:z ≤ 63) (a b c:Int):newS t z a b c = { rawS t z a b c with x:=laO z (ovB t z.toNat),md:=true,db:=fun i=>if i = z.toNat then some ⟨laO z (ovB t z.toNat),60⟩ else none }:=by
 have e:setP (rawS t z a b c).x (rawS t z a b c).md (conS (rawS t z a b c)) = ⟨laO z (ovB t z.toNat),true,true,0⟩:=by
  have h2:adjS (rawS t z a b c).ps = []:=adj_zero fun p hp=>ports_zero hp
  unfold conS
  rw [h2]
  exact set_laO h0 h1 _
 have hv:=vB_t (laO_valid h0 h1 (ovB t z.toNat))
 have e2:instN Db0 (laO z (ovB t z.toNat)) = fun i=>if i = z.toNat then some ⟨laO z (ovB t z.toNat),60⟩ else none:=by
  unfold instN
  rw [if_pos ⟨hv,by simp [instR,hv]⟩]
  rfl
 unfold newS origS
 rw [e,if_pos rfl]
 unfold pubS curX
 simp only [if_true]
 rw [show instN (rawS t z a b c).db (laO z (ovB t z.toNat)) = _ from e2,show sprF (rawS t z a b c).fl (laO z (ovB t z.toNat)) (-1) = (rawS t z a b c).fl from spr_none _ _]
theorem newS_ok {t:Tp} (hT:TpOk t) {i:Nat} (hi:(i:Int) < t.n) {h1 h2 h3:Int} (htm:tmB h1 h2 h3 = true):SpOk (newS t i h1 h2 h3):=by
 have hn:=hT.n
 have hb:((1 ≤ h1 ∧ h1 ≤ 65536) ∧ (1 ≤ h2 ∧ h2 ≤ 65536)) ∧ (1 ≤ h3 ∧ h3 ≤ 65536):=by
  simp only [tmB,wiB,Bool.and_eq_true,decide_eq_true_eq] at htm
  omega
 have hp:=ports_st hT i
 rw [newS_eq (by omega) (by omega)]
 have hv:=laO_valid (node:=(i:Int)) (by omega) (by omega) (ovB t ((i:Int)).toNat)
 have hl:=po_len hp
 refine ⟨hT,⟨by simp [rawS],hi⟩,⟨by simp [rawS],by simp [rawS]⟩,hb.1.1,hb.1.2,hb.2,by simp [rawS],fun p hp1=>?_,?_,?_,by simp [rawS],fun o h e=>?_,fun j hj=>?_,fun l D o h e=>by simp [rawS,Fn0] at e,fun l=>?_,rfl,⟨by simp [laO],by simp [laO]⟩,⟨by simp [laO],by simp [laO]⟩,rfl,hv,⟨by simp [laO],by simp [laO]⟩⟩
 ·obtain ⟨a1,x,a2,a3⟩:=hp.mem p hp1
  obtain ⟨z1,z2,z3⟩:=ports_zero hp1
  have hx:=lk_ok hT a2
  have hk:=(List.getElem?_eq_some_iff.1 a2).1
  have:=hT.ln
  have ha:=hx.a
  have hb:=hx.b
  have hc:=hx.c
  have hd:=hx.d
  refine ⟨⟨a1,by omega⟩,⟨by omega,by omega⟩,⟨by omega,by omega⟩,?_,⟨by omega,by omega⟩⟩
  rw [z1,z2]; rfl
 ·unfold List.Nodup
  rw [List.pairwise_map]
  refine hp.inc.imp fun {p q} h=>?_
  omega
 ·have:=hT.ln
  show (((outs t i).map (ptI t)).map poP).length ≤ 512
  omega
 ·simp only at e
  split at e
  ·next ho =>
   injection e with e
   subst e
   exact ⟨hv,by simp only [laO]; omega,by simp,by simp⟩
  ·cases e
 ·simp only
  rw [if_neg (by omega)]
 ·refine ⟨fun h=>by simp [rawS,Fn0] at h,fun ⟨p,hp1,_,h⟩=>?_⟩
  have:=(ports_zero hp1).1
  omega
theorem ivn_start {P:Par} (hP:ParOk P) {n:Nat} (hn:P.t.n = n) (hB:1 ≤ P.B) (htm:tmB P.H P.D P.R = true):Ivn P n dead0 0 (fun i=>newS P.t i P.H P.D P.R) []:=by
 have hT:=hP.t
 have hN:=hT.n
 have e:=fun i (hi:i < n)=>newS_eq (t:=P.t) (z:=(i:Int)) (by omega) (by omega) P.H P.D P.R
 have hg:∀ i,i < n → Good (fun i:Nat=>newS P.t i P.H P.D P.R) n 0 (laO i (ovB P.t ((i:Int)).toNat)):=fun i hi=>by
  have e0:(laO (i:Int) (ovB P.t ((i:Int)).toNat)).o.toNat = i:=by simp [laO]
  refine ⟨laO_valid (by omega) (by omega) _,by rw [e0]; exact hi,by simp [laO],rfl,?_,fun _=>?_⟩
  ·rw [e0,e i hi]; exact Int.le_refl _
  ·rw [e0,e i hi]; exact ⟨rfl,rfl,rfl,rfl,rfl⟩
 refine ⟨fun i hi=>?_,fun i hi=>by rw [e i hi]; rfl,fun i hi=>by rw [e i hi]; exact ⟨by simp [laO]; omega,by simp [laO]⟩,fun i hi=>?_,fun i hi o h eh=>?_,fun i hi k D o h eD _=>?_,fun x hx=>by simp at hx,fun i hi p hp=>?_,fun i k j D hi hj _ eD=>?_⟩
 ·have hok:=newS_ok hT (i:=i) (by omega) htm
  have hp:=ports_st hT i
  rw [e i hi] at hok ⊢
  exact ⟨hok,rfl,rfl,rfl,rfl,rfl,rfl,rfl,by simp [rawS],hp,by simp [laO,rawS],(adj_zero fun p h=>ports_zero h).symm,rfl⟩
 ·rw [e i hi]
  rw [lv_some (h:=⟨laO i (ovB P.t ((i:Int)).toNat),60⟩) (by simp)]
 ·rw [e i hi] at eh
  simp only at eh
  split at eh
  ·injection eh with eh
   subst eh
   exact hg i hi
  ·cases eh
 ·rw [e i hi] at eD
  simp [rawS,Fn0] at eD
 ·rw [e i hi] at hp
  have hz:=ports_zero hp
  exact ⟨fun _=>hz,fun _=>.inl (by
   unfold PostP phT lfT btT
   simpa using hz)⟩
 ·rw [e i hi] at eD
  simp [rawS,Fn0] at eD
theorem Ivn.wk {P:Par} {n:Nat} {dead:Nat → Nat → Prop} {T:Int} {S:Sps} {way:List Env} (h:Ivn P n dead T S way) (B:Int) (hB:P.B ≤ B):Ivn { P with B:=B } n dead T S way :=
 ⟨fun i hi=>by obtain ⟨a1,a2,a3,a4,a5,a6,a7,a8,a9,a10,a11⟩:=h.st i hi; exact ⟨a1,a2,a3,a4,a5,a6,a7,a8,a9,a10,a11⟩,h.tm,fun i hi=>⟨by have:=(h.xb i hi).1; simp only; omega,(h.xb i hi).2⟩,h.ow,h.gd,h.gf,h.gw,h.po,h.q⟩
theorem vX_nat (N:Db) {o:Nat} (ho:o < 64) {h:Hd} (e:N o = some h):vX N (o:Int) = h.x:=by
 unfold vX getO
 rw [if_pos (by omega),Int.toNat_natCast,e]
 rfl
theorem cst_none {l:List Ad} {tn lk:Int} (h:∀ x ∈ l,¬ (x.2.1 = lk ∧ x.1 = tn)):cstL l tn lk = none:=by
 induction l with
 | nil=>rfl
 | cons y l ih =>
   unfold cstL
   rw [if_neg (h y (by simp))]
   exact ih fun x hx=>h x (by simp [hx])
theorem cst_some {l:List Ad} {tn lk c:Int} (hm:(tn,lk,c) ∈ l) (hu:∀ x ∈ l,x.2.1 = lk → x = (tn,lk,c)):cstL l tn lk = some c:=by
 induction l with
 | nil=>cases hm
 | cons y l ih =>
   unfold cstL
   by_cases e:y.2.1 = lk
   ·have:=hu y (by simp) e
    subst this
    rw [if_pos ⟨rfl,rfl⟩]
   ·rw [if_neg (fun h=>e h.1)]
    refine ih ?_ fun x hx=>hu x (by simp [hx])
    rcases List.mem_cons.1 hm with h1 | h1
    ·rw [← h1] at e; exact absurd rfl e
    ·exact h1
theorem adj_mem {ps:List Po} {x:Ad}:x ∈ adjS ps ↔ ∃ p ∈ ps,p.ph = 2 ∧ x = (p.o,p.l,p.c):=by
 unfold adjS
 rw [List.mem_filterMap]
 constructor
 ·rintro ⟨p,hp,h⟩
  split at h
  ·next e=>injection h with h; exact ⟨p,hp,e,h.symm⟩
  ·cases h
 ·rintro ⟨p,hp,e,rfl⟩
  exact ⟨p,hp,by rw [if_pos e]⟩
theorem po_uq {t:Tp} {i:Nat} {ps:List Po} (h:PoSt t i ps) {p q:Po} (hp:p ∈ ps) (hq:q ∈ ps) (e:p.l = q.l):p = q:=by
 have h1:=h.inc
 rw [List.pairwise_iff_getElem] at h1
 obtain ⟨a,ha,rfl⟩:=List.getElem_of_mem hp
 obtain ⟨b,hb,rfl⟩:=List.getElem_of_mem hq
 rcases Nat.lt_trichotomy a b with h2 | h2 | h2
 ·have:=h1 a b ha hb h2; omega
 ·subst h2; rfl
 ·have:=h1 b a hb ha h2; omega
section
variable {P:Par} {n:Nat} {dead:Nat → Nat → Prop} {T:Int} {S:Sps}
theorem Ivn.cst (hP:ParOk P) (hn:P.t.n = n) (h:Ivn P n dead T S []) (hT:P.H + 1 ≤ T) {i o k:Nat} (hi:i < n) (ho:o < n) {N:Db} (hN:N = (S i).db) (hc:∃ x,(S i).db o = some x ∧ Con x.x (S o).x) {y:Lk} (hy:P.t.ln[k]? = some y) {tn cc:Int} (he:(y.a = o ∧ tn = y.b ∧ cc = y.c) ∨ (y.b = o ∧ tn = y.a ∧ cc = y.d)) :
  (¬ dead o k → cstL (vX N (o:Int)).adj tn (k:Int) = some cc) ∧ (dead o k → cstL (vX N (o:Int)).adj tn (k:Int) = none):=by
 subst hN
 obtain ⟨x,hx,hcx⟩:=hc
 have hlt:=hP.t.n
 have hst:=h.st o ho
 have hadj:(vX (S i).db (o:Int)).adj = adjS (S o).ps:=by
  rw [vX_nat _ (by omega) hx,hcx.adj,hst.xc.2.1]
 have hne:=(lk_ok hP.t hy).ne
 rw [hadj]
 obtain ⟨p,hp,hpl⟩:=hst.po.all k y hy (by omega)
 have hpm:=(hst.po.mem p hp).2
 rw [hpl,Int.toNat_natCast,hy] at hpm
 obtain ⟨y',e1,hpm⟩:=hpm
 injection e1 with e1
 subst e1
 have hpc:p.o = tn ∧ p.c = cc:=by
  rcases he with ⟨a1,a2,a3⟩ | ⟨a1,a2,a3⟩ <;> rcases hpm with ⟨b1,b2,b3⟩ | ⟨b1,b2,b3⟩ <;> omega
 have hpo:=h.po o ho p hp
 rw [hpl,Int.toNat_natCast] at hpo
 constructor
 ·intro hd
  have hph:p.ph = 2:=by
   rcases hpo.2 hd with h1 | ⟨_,e2,h2,_⟩
   ·exact post_up hP hT h1
   ·cases h2
  refine cst_some (adj_mem.2 ⟨p,hp,hph,by rw [hpc.1,hpl,hpc.2]⟩) fun z hz hzl=>?_
  obtain ⟨q,hq,_,rfl⟩:=adj_mem.1 hz
  have:=po_uq hst.po hq hp (by rw [hpl]; exact hzl)
  rw [this,hpc.1,hpl,hpc.2]
 ·intro hd
  refine cst_none fun z hz=>?_
  obtain ⟨q,hq,hph,rfl⟩:=adj_mem.1 hz
  intro ⟨hzl,_⟩
  have:=po_uq hst.po hq hp (by rw [hpl]; exact hzl)
  rw [this] at hph
  have:=(hpo.1 hd).1
  omega
theorem Ivn.view (hP:ParOk P) (hn:P.t.n = n) (h:Ivn P n dead T S []) (hT:P.H + 1 ≤ T) (hc:Conv n S) {i:Nat} (hi:i < n) {k:Nat} {y:Lk} (hy:P.t.ln[k]? = some y) :
  (¬ dead y.a.toNat k → ¬ dead y.b.toNat k → upL (S i).db k y = y ∧ dnB (S i).db k y = false) ∧ (dead y.a.toNat k → dnB (S i).db k y = true):=by
 have ha:=(lk_ok hP.t hy).a
 have hb:=(lk_ok hP.t hy).b
 obtain ⟨a,ea⟩:∃ a:Nat,y.a = (a:Int):=⟨y.a.toNat,by omega⟩
 obtain ⟨b,eb⟩:∃ b:Nat,y.b = (b:Int):=⟨y.b.toNat,by omega⟩
 have ca:=h.cst hP hn hT (i:=i) (o:=a) hi (by omega) rfl (hc i a hi (by omega)) hy (.inl ⟨ea,rfl,rfl⟩)
 have cb:=h.cst hP hn hT (i:=i) (o:=b) hi (by omega) rfl (hc i b hi (by omega)) hy (.inr ⟨eb,rfl,rfl⟩)
 have e1:cA (S i).db k y = cstL (vX (S i).db (a:Int)).adj y.b (k:Int):=by unfold cA; rw [ea]
 have e2:cB (S i).db k y = cstL (vX (S i).db (b:Int)).adj y.a (k:Int):=by unfold cB; rw [eb]
 rw [show y.a.toNat = a by omega,show y.b.toNat = b by omega]
 constructor
 ·intro h1 h2
  unfold upL dnB
  rw [e1,e2,ca.1 h1,cb.1 h2]
  simp
 ·intro h1
  unfold dnB
  rw [e1,ca.2 h1]
  simp
theorem Ivn.vwO (hP:ParOk P) (hn:P.t.n = n) (h:Ivn P n dead T S []) (hc:Conv n S) {i:Nat} (hi:i < n):vwO (S i).db n = (List.range n).map (ovB P.t):=by
 have hlt:=hP.t.n
 unfold Go.Proofs.YtehimhbgakpenaaGreat.vwO
 refine List.map_congr_left fun o ho=>?_
 rw [List.mem_range] at ho
 obtain ⟨x,hx,hcx⟩:=hc i o hi ho
 have hst:=h.st o ho
 rw [vX_nat _ (by omega) hx,hcx.ov,hst.xc.1,hst.ov]
theorem vwL_id {N:Db}:∀ (l:List Lk) (i:Nat),(∀ k x,l[k]? = some x → upL N (i + k) x = x) → vwL N i l = l
 | [],_,_=>rfl
 | y :: l,i,h=>by
   unfold vwL
   rw [show upL N i y = y from h 0 y rfl,vwL_id l (i + 1) fun k x e=>by rw [show i + 1 + k = i + (k + 1) by omega]; exact h (k + 1) x e]
theorem vwD_no {N:Db}:∀ (l:List Lk) (i:Nat),(∀ k x,l[k]? = some x → dnB N (i + k) x = false) → vwD N i l = List.replicate (2 * l.length) false
 | [],_,_=>rfl
 | y :: l,i,h=>by
   unfold vwD
   rw [show dnB N i y = false from h 0 y rfl,vwD_no l (i + 1) fun k x e=>by rw [show i + 1 + k = i + (k + 1) by omega]; exact h (k + 1) x e]
   rfl
end
end Go.Proofs.YtehimhbgakpenaaGreat

namespace Go.Proofs.YtehimhbgakpenaaGreat
set_option linter.unusedVariables false
set_option linter.unusedSimpArgs false
open Go.RowKit Go.Maps Go.Sort
theorem con_same {x y z:La} (h1:Con x z) (h2:Con y z) (a1:x.a < 3600) (a2:y.a < 3600):sameB x y = true:=by
 obtain ⟨xo,xs,xa,xv,xj,xp⟩:=x
 obtain ⟨yo,ys,ya,yv,yj,yp⟩:=y
 obtain ⟨c1,c2,c3,c4,c5⟩:=h1
 obtain ⟨d1,d2,d3,d4,d5⟩:=h2
 simp only at c1 c2 c3 c4 c5 d1 d2 d3 d4 d5 a1 a2
 subst d1 d2 d3 d4 d5
 subst c1 c2 c3 c4 c5
 have e1:(xa == 3600) = false:=by simp; omega
 have e2:(ya == 3600) = false:=by simp; omega
 simp [sameB,conB,e1,e2]
section
variable {P:Par} {n:Nat} {dead:Nat → Nat → Prop} {T:Int} {S:Sps}
theorem Ivn.has (hP:ParOk P) (hn:P.t.n = n) (h:Ivn P n dead T S []) (hc:Conv n S) {i:Nat} (hi:i < n) (o:Nat):((S i).db o).isSome = true ↔ o < n:=by
 constructor
 ·intro h1
  obtain ⟨x,hx⟩:=Option.isSome_iff_exists.1 h1
  have g:=(h.gd i hi o x hx).o
  have:=((h.st i hi).ok.db _ _ hx).2.1
  omega
 ·intro ho
  obtain ⟨x,hx,_⟩:=hc i o hi ho
  rw [hx]; rfl
theorem Ivn.orgs8 (hP:ParOk P) (hn:P.t.n = n) (h:Ivn P n dead T S []) (hc:Conv n S) {i j:Nat} (hi:i < n) (hj:j < n):orgs (S i).db = orgs (S j).db:=by
 unfold orgs
 refine List.filter_congr fun z _=>?_
 have a:=h.has hP hn hc hi z.toNat
 have b:=h.has hP hn hc hj z.toNat
 rw [Bool.eq_iff_iff,a,b]
theorem Ivn.agr (hP:ParOk P) (hn:P.t.n = n) (h:Ivn P n dead0 T S []) (hT:P.H + 1 ≤ T) (hT9:T ≤ 1700) (hc:Conv n S):AgrOk n P.t S:=by
 have hN:=hP.t.n
 have hu:=fun i (hi:i < n) (k:Nat) (y:Lk) (hy:P.t.ln[k]? = some y)=>(h.view hP hn hT hc hi hy).1 (fun h=>h) (fun h=>h)
 refine ⟨hP.t,hn,by omega,fun i hi=>(h.st i hi).ok,fun i hi=>(h.st i hi).tp,fun i hi=>?_,fun i hi=>?_,fun i hi=>h.orgs8 hP hn hc hi (by omega),fun i hi k x y hx hy=>?_⟩
 ·unfold vwT
  rw [show P.t.n.toNat = n by omega,h.vwO hP hn hc hi,vwL_id P.t.ln 0 fun k y hy=>by rw [Nat.zero_add]; exact (hu i hi k y hy).1]
 ·exact vwD_no P.t.ln 0 fun k y hy=>by rw [Nat.zero_add]; exact (hu i hi k y hy).2
 ·unfold allN at hx hy
  rw [h.orgs8 hP hn hc hi (show 0 < n by omega)] at hy
  rw [List.getElem?_map] at hx hy
  obtain ⟨z,hz,rfl⟩:=Option.map_eq_some_iff.1 hx
  rw [hz] at hy
  simp only [Option.map_some,Option.some.injEq] at hy
  subst hy
  have hm:=(orgs_mem z).1 (List.mem_of_getElem? hz)
  have ho:=(h.has hP hn hc (show 0 < n by omega) z.toNat).1 hm.2
  obtain ⟨x0,e0,c0⟩:=hc 0 z.toNat (by omega) ho
  obtain ⟨x1,e1,c1⟩:=hc i z.toNat hi ho
  rw [e0,e1]
  have g0:=(h.gd 0 (by omega) _ _ e0).a
  have g1:=(h.gd i hi _ _ e1).a
  exact con_same c0 c1 (by show x0.x.a < 3600; omega) (by show x1.x.a < 3600; omega)
end
end Go.Proofs.YtehimhbgakpenaaGreat
