/-
  The texts Nw10, Nw11, Nw9, one after the other.
-/
import Derived.Test.YtehimhbgakpenaaGreatQPWith32
import Derived.Test.YtehimhbgakpenaaGreatQPWith51
import Derived.Test.YtehimhbgakpenaaGreatQPWith52
import Derived.Test.YtehimhbgakpenaaGreatQPWith44
import Derived.Test.YtehimhbgakpenaaGreatQPWith46
import Derived.Test.YtehimhbgakpenaaGreatQPWith50
import Derived.Test.YtehimhbgakpenaaGreatQPWith33
namespace Go.Proofs.YtehimhbgakpenaaGreat
set_option linter.unusedVariables false
set_option linter.unusedSimpArgs false
open Go.RowKit Go.Maps Go.Sort
def SmP (w:World) (t:Tp) (h1 h2 h3:Int) (e:Ending) (w':World):Prop:=∃ r,e = .returned (.bool r) ∧ (r = true → TpOk t ∧ tmB h1 h2 h3 = true) ∧ Below w.heap.size w w'
set_option maxRecDepth 100000 in
set_option maxHeartbeats 6400000 in
theorem small_any (w:World) (v:Value) (t:Tp) (ht:TpAt w v t) (h1 h2 h3:Int) :
  Calls Tryz.prog 6 #[v,.agg #[.int .i64 h1,.int .i64 h2,.int .i64 h3]] w (SmP w t h1 h2 h3):=by
 have ht':=ht
 obtain ⟨A,c,B,d,rfl,rA,rB,l1,l2⟩:=ht
 have S:=((St.start w).new' #[.int .i64 t.n,.slice A t.ov.length c,.slice B t.ln.length d] 25 w.heap.size _ rfl rfl).new' #[.int .i64 h1,.int .i64 h2,.int .i64 h3] 27 (w.heap.size + 1) _ (by simp) rfl
 have TV:=Lib.hid (rtvalid_any _ _ t (ht'.below S.b))
 have hT:tB t = true → TpOk t:=tB_iff.1
 clear rA rB l1 l2 ht'
 have a0:=S.c 1 0 rfl rfl
 have a1:=S.c 1 1 rfl rfl
 have a2:=S.c 1 2 rfl rfl
 go_enter Tryz.func6,Tryz.ntmps6
 go_wp2_with fail
 (with_reducible refine (TV.out).mono ?_)
 rintro e w1 ⟨rfl,hb⟩
 replace S:=S.call hb
 clear TV hb a0 a1 a2
 generalize t.ov.length = ko at *
 generalize t.ln.length = m at *
 generalize tB t = b1 at *
 have a0:=S.c 1 0 rfl rfl
 have a2:=S.c 1 2 rfl rfl
 have b0:=S.c 0 0 rfl rfl
 have b1':=S.c 0 1 rfl rfl
 have b2:=S.c 0 2 rfl rfl
 rcases b1 with _ | _
 ·have hb9:=S.b
  clear S
  go_wp2_with fail
  go_ret
  exact ⟨false,rfl,fun h=>absurd h (by decide),hb9⟩
 replace hT:=Lib.hid (hT rfl)
 rcases e1:decide (t.n ≤ 8) with _ | _
 ·have hb9:=S.b
  clear S
  go_wp2_with fail
  go_ret
  exact ⟨false,rfl,fun h=>absurd h (by decide),hb9⟩
 rcases e2:decide ((m:Int) ≤ 12) with _ | _
 ·have hb9:=S.b
  clear S
  go_wp2_with fail
  go_ret
  exact ⟨false,rfl,fun h=>absurd h (by decide),hb9⟩
 go_wp2_with fail
 (with_reducible refine (timed_any _ h1 h2 h3).mono ?_)
 rintro e w2 ⟨rfl,hb⟩
 clear a0 a2 b0 b1' b2
 replace S:=S.call hb
 have b0:=S.c 0 0 rfl rfl
 have b1':=S.c 0 1 rfl rfl
 have b2:=S.c 0 2 rfl rfl
 have hb9:=S.b
 clear S hb
 rcases e3:tmB h1 h2 h3 with _ | _
 ·go_wp2_with fail
  go_ret
  exact ⟨false,rfl,fun h=>absurd h (by decide),hb9⟩
 replace e3:=Lib.hid e3
 go_wp2_with fail
 all_goals
  go_ret
  exact ⟨_,rfl,fun _=>⟨hT.out,e3.out⟩,hb9⟩
def pT:Tp:=⟨2,[false,false],[⟨0,1,3,4,1,1,0⟩]⟩
set_option maxRecDepth 100000 in
set_option maxHeartbeats 6400000 in
theorem pair_any (w:World):Calls Tryz.prog 27 #[] w fun e w'=>∃ v,e = .returned v ∧ TpAt w' v pT ∧ Below w.heap.size w w':=by
 have MK:∀ W:World,(Instr.makeSlice 22 (.int .i64 2) (.int .i64 2)).run Tryz.prog W = .ok (.slice (some ⟨W.heap.size,0,none⟩) 2 2) (W.alloc (.cells #[.bool false,.bool false] 4)):=fun W=>by
  have:=run_make1 (P:=Tryz.prog) boT rfl .i64 .i64 2 2 (Nat.le_refl _) (by omega) (by omega) W
  simpa [zeroRow] using this
 go_enter Tryz.func27,Tryz.ntmps27
 go_wp2_with fail
 have S:=(((St.start w).new' #[.int .i64 2,.slice (some ⟨w.heap.size + 1,0,none⟩) 2 2,.slice (some ⟨w.heap.size + 1 + 1,0,none⟩) 1 1] 25 w.heap.size _ rfl rfl).new' #[.bool false,.bool false] 4 (w.heap.size + 1) _ (by simp) rfl).new' #[.int .i64 0,.int .i64 1,.int .i64 3,.int .i64 4,.int .i64 1,.int .i64 1,.int .i64 0] 79 (w.heap.size + 1 + 1) _ (by simp) rfl
 generalize World.alloc (World.alloc (World.alloc w _) _) _ = w1 at *
 have k0:=S.c 2 0 rfl rfl
 have k1:=S.c 2 1 rfl rfl
 have k2:=S.c 2 2 rfl rfl
 have hTp:TpAt w1 (.agg #[.int .i64 2,.slice (some ⟨w.heap.size + 1,0,none⟩) 2 2,.slice (some ⟨w.heap.size + 1 + 1,0,none⟩) 1 1]) pT:=⟨_,_,_,_,rfl,Box.rd (S.box 1 rfl),Box.rd (S.box 0 rfl),by simp [pT,maxLen],by simp [pT,maxLen]⟩
 exact bodyPost_ret (v:=.agg #[.int .i64 2,.slice (some ⟨w.heap.size + 1,0,none⟩) 2 2,.slice (some ⟨w.heap.size + 1 + 1,0,none⟩) 1 1]) (by simp [results,Tryz.results27,go_sem,k0,k1,k2]) rfl ⟨_,rfl,hTp,S.b⟩
def pP:Par:=⟨pT,2,5,2,1⟩
theorem pT_ok:TpOk pT:=⟨by decide,by decide,by decide,fun x hx=>by
 simp only [pT,List.mem_singleton] at hx
 subst hx
 constructor <;> decide⟩
theorem pP_ok:ParOk pP:=⟨pT_ok,by decide,by decide,by decide⟩
theorem pP_lnk:Lnk pP.t 0 0 1:=⟨⟨0,1,3,4,1,1,0⟩,rfl,.inl ⟨rfl,rfl⟩⟩
theorem pP_con:ConnP pP 2 dead0:=fun Q h i j hi hj hQ=>by
 have h1:=h 0 0 1 (by omega) (by omega) pP_lnk (fun h=>h) (fun h=>h)
 have h2:=h 1 0 0 (by omega) (by omega) pP_lnk.symm (fun h=>h) (fun h=>h)
 have ei:i = 0 ∨ i = 1:=by omega
 have ej:j = 0 ∨ j = 1:=by omega
 rcases ei with rfl | rfl <;> rcases ej with rfl | rfl
 ·exact hQ
 ·exact h1 hQ
 ·exact h2 hQ
 ·exact hQ
theorem pP_few:FewP pP 2:=by unfold FewP; decide
theorem Ivn.upS {P:Par} {n:Nat} {T:Int} {S:Sps} (hP:ParOk P) (h:Ivn P n dead0 T S []) {i k v:Nat} (hv:v < n) (hl:Lnk P.t i k v):upS (S v) (k:Int) = decide (phT P.H T = 2):=by
 obtain ⟨x,hx,hf,hxl,_⟩:=h.port hP.t hv hl
 unfold Go.Proofs.YtehimhbgakpenaaGreat.upS
 rw [hf]
 simp only [phS,List.getElem?_eq_getElem hx]
 have hpo:=(h.po v hv _ (List.getElem_mem hx)).2 (fun h=>h)
 rcases hpo with h1 | ⟨_,e2,h2,_⟩
 ·rw [h1.1]; rfl
 ·cases h2
end Go.Proofs.YtehimhbgakpenaaGreat

namespace Go.Proofs.YtehimhbgakpenaaGreat
set_option linter.unusedVariables false
set_option linter.unusedSimpArgs false
open Go.RowKit Go.Maps Go.Sort
theorem NtwAt.row {B0 Bn:Nat} {w0 w:World} {N:Nm} {n:Nat} {t:Tp} {S:Sps} (h:NtwAt B0 Bn w0 w N n t S) (hn:0 < n):∃ b off,w.cell? ⟨N.g,3,none⟩ = some (.slice (some ⟨b,off,none⟩) n N.c1) ∧ ∀ i,i < n → w.cell? ⟨b,off + i,none⟩ = some (.pointer (some ⟨(N.M i).g,0,none⟩)):=by
 obtain ⟨b,off,e,hc⟩:=rd_at (own_slice h.rp) (by rw [ptrN_len]; exact hn)
 have x3:=h.bx.c 3 rfl
 rw [e] at x3
 exact ⟨b,off,x3,fun i hi=>hc i _ (ptrN_get hi)⟩
set_option maxRecDepth 100000 in
set_option maxHeartbeats 12800000 in
theorem awake8_any (w:World):Calls Tryz.prog 5 #[] w fun e w'=>e = .returned (.bool true) ∧ Below w.heap.size w w':=by
 go_enter Tryz.func5,Tryz.ntmps5
 go_wp2_with fail
 (with_reducible refine (packs8_any _).mono ?_)
 rintro e w1 ⟨rfl,hb1⟩
 go_wp2_with fail
 (with_reducible refine (pair_any _).mono ?_)
 rintro e w2 ⟨v,rfl,hTp,hb2⟩
 have hb:=hb1.trans (hb2.mono hb1.size)
 have NB:=nbuild_any w2 v pT 2 hTp pT_ok rfl (by omega) 2 5 2 rfl
 clear hb1 hb2
 go_wp2_with fail
 (with_reducible refine (NB).mono ?_)
 rintro e w3 ⟨N,wb,rfl,hN,hbb⟩
 have r0:RunOk pP 2 dead0 3 0 (fun i=>newS pT i 2 5 2):=⟨ivn_start (P:=pP) pP_ok rfl (by decide) rfl,fun h=>absurd h (by omega)⟩
 have hB0:=hb.trans (hbb.mono hb.size)
 clear NB hTp hb hbb
 have R1:=nrun_any pP_ok rfl pP_few (Int.le_refl 0) (by decide) pP_con hN r0 1 1 rfl (by omega)
 replace R1:=Lib.hid R1
 clear hN r0
 go_wp2_with fail
 (with_reducible refine (R1.out).mono ?_)
 rintro e w4 ⟨N4,S4,rfl,hs4,hN4,hr4⟩
 clear R1
 obtain ⟨b,off,x3,xi⟩:=hN4.row (by omega)
 have z0:=xi 0 (by omega)
 rw [Nat.add_zero] at z0
 have U4:=spUp_any w4 (N4.M 0) (S4 0) N4.col (0 + 1) (hN4.sp 0 (by omega)) (by have:=(hr4.iv.st 0 (by omega)).ok.pl; omega) ((0:Nat):Int)
 rw [hr4.iv.upS pP_ok (by omega) pP_lnk.symm] at U4
 rw [show decide (phT pP.H (0 + 1) = 2) = false by decide,show ((0:Nat):Int) = 0 from rfl] at U4
 unfold SameN at hs4
 rw [hs4] at x3
 have R2:=nrun_any pP_ok rfl pP_few (by omega) (by decide) pP_con hN4 hr4 9 9 rfl (by omega)
 rw [hs4] at R2
 replace R2:=Lib.hid R2
 replace U4:=Lib.hid U4
 clear xi hN4 hr4
 go_wp2_with fail
 (with_reducible refine (U4.out).mono ?_)
 rintro e w5 ⟨rfl,rfl⟩
 clear U4 x3 z0
 go_wp2_with fail
 (with_reducible refine (R2.out).mono ?_)
 rintro e w6 ⟨N6,S6,rfl,hs6,hN6,hr6⟩
 clear R2
 have hr6':RunOk pP 2 dead0 3 10 S6:=hr6
 clear hr6
 obtain ⟨b6,off6,x3,xi⟩:=hN6.row (by omega)
 have z0:=xi 0 (by omega)
 have z1:=xi 1 (by omega)
 rw [Nat.add_zero] at z0
 have hb6:Below w.heap.size w w6:=hB0.trans (hN6.bel.mono hB0.size)
 have U0:=spUp_any w6 (N6.M 0) (S6 0) N6.col (0 + 1) (hN6.sp 0 (by omega)) (by have:=(hr6'.iv.st 0 (by omega)).ok.pl; omega) ((0:Nat):Int)
 rw [hr6'.iv.upS pP_ok (by omega) pP_lnk.symm,show decide (phT pP.H 10 = 2) = true by decide,show ((0:Nat):Int) = 0 from rfl] at U0
 have U1:=spUp_any w6 (N6.M 1) (S6 1) N6.col (1 + 1) (hN6.sp 1 (by omega)) (by have:=(hr6'.iv.st 1 (by omega)).ok.pl; omega) ((0:Nat):Int)
 rw [hr6'.iv.upS pP_ok (by omega) pP_lnk,show decide (phT pP.H 10 = 2) = true by decide,show ((0:Nat):Int) = 0 from rfl] at U1
 have AG:=nagree_any hN6 (hr6'.iv.agr pP_ok rfl (by decide) (by omega) (hr6'.fin (by omega) (by omega)))
 unfold SameN at hs6
 rw [hs6,hs4] at x3 AG
 replace U0:=Lib.hid U0
 replace U1:=Lib.hid U1
 replace AG:=Lib.hid AG
 clear xi hN6 hr6' hB0 hs6 hs4
 go_wp2_with fail
 (with_reducible refine (U0.out).mono ?_)
 rintro e w7 ⟨rfl,rfl⟩
 clear U0
 go_wp2_with fail
 (with_reducible refine (U1.out).mono ?_)
 rintro e w8 ⟨rfl,rfl⟩
 clear U1
 go_wp2_with fail
 (with_reducible refine (AG.out).mono ?_)
 rintro e w9 ⟨rfl,hb9⟩
 clear AG
 have hb10:=hb6.trans (hb9.mono hb6.size)
 clear x3 z0 z1 hb6 hb9
 go_wp2_with fail
 go_ret
 exact ⟨rfl,hb10⟩
end Go.Proofs.YtehimhbgakpenaaGreat

namespace Go.Proofs.YtehimhbgakpenaaGreat
set_option linter.unusedVariables false
set_option linter.unusedSimpArgs false
open Go.RowKit Go.Maps Go.Sort
def ClQ (l:List Lk) (Q:Nat → Prop):Prop:=∀ x ∈ l,Q x.a.toNat ↔ Q x.b.toNat
def Cnn (l:List Lk) (j:Nat):Prop:=∀ Q,ClQ l Q → (Q j ↔ Q 0)
def InOk (l:List Lk) (n:Nat) (L:List Bool):Prop:=L.length = n ∧ ∀ j:Nat,L[j]? = some true → Cnn l j
def CnP (w:World) (l:List Lk) (n:Nat) (e:Ending) (w':World):Prop:=∃ r,e = .returned (.bool r) ∧ (r = true → ∀ j,j < n → Cnn l j) ∧ Below w.heap.size w w'
theorem InOk.zero (l:List Lk) {n:Nat} (hn:0 < n):InOk l n ((List.replicate n false).set 0 true):=by
 refine ⟨by simp,fun j h=>?_⟩
 rw [List.getElem?_set] at h
 split at h
 ·next e=>subst e; exact fun Q _=>Iff.rfl
 ·rw [List.getElem?_replicate] at h
  split at h <;> simp at h
theorem InOk.put {l:List Lk} {n:Nat} {L:List Bool} (h:InOk l n L) {x:Lk} (hx:x ∈ l) {a b:Nat} (ha:x.a = (a:Int)) (hb:x.b = (b:Int)) (hor:L[a]? = some true ∨ L[b]? = some true):InOk l n ((L.set a true).set b true):=by
 have hab:Cnn l a ∧ Cnn l b:=by
  have key:∀ Q,ClQ l Q → (Q a ↔ Q b):=fun Q hQ=>by
   have:=hQ x hx
   rwa [ha,hb,Int.toNat_natCast,Int.toNat_natCast] at this
  rcases hor with h1 | h1
  ·exact ⟨h.2 a h1,fun Q hQ=>(key Q hQ).symm.trans (h.2 a h1 Q hQ)⟩
  ·exact ⟨fun Q hQ=>(key Q hQ).trans (h.2 b h1 Q hQ),h.2 b h1⟩
 refine ⟨by simp [h.1],fun j hj=>?_⟩
 rw [List.getElem?_set] at hj
 split at hj
 ·next e=>subst e; exact hab.2
 ·rw [List.getElem?_set] at hj
  split at hj
  ·next e=>subst e; exact hab.1
  ·exact h.2 j hj
theorem boV_get {L:List Bool} {j:Nat} {b:Bool} (h:L[j]? = some b):(boV L)[j]? = some (.bool b):=by
 unfold boV
 rw [List.getElem?_map,h]; rfl
theorem boV_put (L:List Bool) (j:Nat) (b:Bool):(boV L).set j (.bool b) = boV (L.set j b):=by
 unfold boV
 rw [List.map_set]
set_option maxRecDepth 100000 in
set_option maxHeartbeats 12800000 in
theorem connected_any (w:World) (v:Value) (t:Tp) (n:Nat) (hn:t.n = n) (hn1:0 < n) (hn9:n ≤ 64) (h:TpAt w v t) (hl:t.ln.length ≤ 256) (hlk:∀ x ∈ t.ln,∃ a b:Nat,x.a = (a:Int) ∧ x.b = (b:Int) ∧ a < n ∧ b < n) :
  Calls Tryz.prog 18 #[v] w (CnP w t.ln n):=by
 obtain ⟨A,c,B,d,rfl,rA,rB,l1,l2⟩:=h
 rw [hn]
 obtain ⟨ll,hll⟩:∃ ll,t.ln = ll:=⟨_,rfl⟩
 rw [hll] at rB hl l2 hlk ⊢
 obtain ⟨m,hm⟩:∃ m,ll.length = m:=⟨_,rfl⟩
 rw [hm] at hl ⊢
 generalize t.ov.length = ko at *
 clear rA l1 l2 hn hll
 have S:=((St.start w).read rB).new' #[.int .i64 (n:Int),.slice A ko c,.slice B m d] 25 w.heap.size _ rfl rfl
 have hI0:=Lib.hid (InOk.zero ll hn1)
 replace hm:=Lib.hid hm
 replace hlk:=Lib.hid hlk
 clear rB
 go_enter Tryz.func18,Tryz.ntmps18
 go_upto_region 1 with fail
 generalize hw1:World.alloc w _ = w1 at *
 have hs1:w1.heap.size = w.heap.size + 1:=by rw [← hw1]; simp
 clear hw1
 have MK:=fun W=>run_make1 (P:=Tryz.prog) boT rfl .i64 .i64 n n (Nat.le_refl _) (by omega) (by omega) W
 have a0:=S.c 0 0 rfl rfl
 go_upto_region 2 with fail
 clear MK a0
 replace S:=S.new' (zeroRow (.bool false) n) 4 w1.heap.size (boV (List.replicate n false)) rfl (by simp [zeroRow,boV])
 rw [hs1] at S
 generalize World.alloc w1 _ = w2 at *
 clear hs1
 have hc0:(boV (List.replicate n false))[0]? = some (.bool false):=boV_get (by rw [List.getElem?_replicate,if_pos hn1])
 have f0:=S.f 0 0 rfl hc0
 have c0:=S.c 0 0 rfl hc0
 replace S:=S.set 0 0 (.bool true) rfl (by rw [boV_len]; simpa using hn1) (by omega) (by simp) _ rfl
 rw [boV_put] at S
 go_upto_region 4 with fail
 clear f0 c0 hc0
 generalize World.setCell w2 _ _ = w3 at *
 go_wp2_with fail
 go_loopw [4] (fun v4 wr=>∃ (r:Nat) (L:List Bool),v4 = .int .i64 r ∧ r ≤ n ∧ Hid (InOk ll n L) ∧ St w wr [(w.heap.size + 1,boV L),(w.heap.size,[.int .i64 (n:Int),.slice A ko c,.slice B m d])] [(B,lksV ll)]) (fun v4 _=>n - (intOf v4).toNat)
 case atStart=>exact ⟨0,_,rfl,by omega,hI0,S⟩
 case round =>
  clear S hI0
  obtain ⟨r,L,rfl,hr,hI,S⟩:=hrel
  have a0:=S.c 1 0 rfl rfl
  by_cases hrn:r < n
  ·go_upto_region 6 with fail
   clear a0
   go_wp2_with fail
   go_loopw [5] (fun v5 wr=>∃ (q:Nat) (L:List Bool),v5 = .int .i64 q ∧ q ≤ m ∧ Hid (InOk ll n L) ∧ St w wr [(w.heap.size + 1,boV L),(w.heap.size,[.int .i64 (n:Int),.slice A ko c,.slice B m d])] [(B,lksV ll)]) (fun v5 _=>m - (intOf v5).toNat)
   case atStart=>exact ⟨0,_,rfl,by omega,hI,S⟩
   case round =>
    clear S hI
    obtain ⟨q,L,rfl,hq,hI,S⟩:=hrel
    have a2:=S.c 1 2 rfl rfl
    by_cases hqm:q < m
    ·have hql:q < ll.length:=by have:=hm.out; omega
     obtain ⟨pb,off,rfl,hc⟩:=rd_lk (S.r 0 rfl) (by omega)
     obtain ⟨x0,x1,x2,x3,x3',x4,x5,x6⟩:=hc q hql
     have hxm:ll[q] ∈ ll:=List.getElem_mem hql
     obtain ⟨a,b,hxa,hxb,han,hbn⟩:=hlk.out _ hxm
     have hput:=fun L (h:InOk ll n L)=>h.put hxm hxa hxb
     replace hput:=Lib.hid hput
     generalize ll[q] = x at *
     obtain ⟨xa,xb,xc,xd,xe,xf,xg⟩:=x
     simp only at x0 x1 x2 x3 x3' x4 x5 x6 hxa hxb
     subst hxa hxb
     clear hc hxm
     have hLn:=hI.out.1
     obtain ⟨ba,hba⟩:∃ ba,L[a]? = some ba:=⟨_,List.getElem?_eq_getElem (by omega)⟩
     obtain ⟨bb,hbb⟩:∃ bb,L[b]? = some bb:=⟨_,List.getElem?_eq_getElem (by omega)⟩
     replace hLn:=Lib.hid hLn
     go_upto_region 10 with fail
     have hkl:w.heap.size + 1 < wr.heap.size:=S.lt 0 rfl (by rw [boV_len]; have:=hLn.out; omega)
     have S4:=(S.keepReads [(some ⟨pb,off,none⟩,lksV ll)] (by simp)).new' #[.int .i64 (a:Int),.int .i64 (b:Int),.int .i64 xc,.int .i64 xd,.int .i64 xe,.int .i64 xf,.int .i64 xg] 79 wr.heap.size _ rfl rfl
     clear S a2 x0 x1 x2 x3 x3' x4 x5 x6
     generalize hw4:World.alloc wr _ = w4 at *
     clear hw4
     generalize wr.heap.size = kl at *
     have k0:=S4.c 0 0 rfl rfl
     have k1:=S4.c 0 1 rfl rfl
     have j0:=S4.c 1 a rfl (boV_get hba)
     have j1:=S4.c 1 b rfl (boV_get hbb)
     rcases Bool.eq_false_or_eq_true ba with rfl | rfl
     ·have hI2:=Lib.hid (hput.out L hI.out (.inl hba))
      have hba2:=Lib.hid hba
      clear hba hbb
      go_upto_region 11 with fail
      clear j0 j1
      refine wp_region_noPanic ?_
      refine wp_region_Z (S:=fun W=>W.cell? ⟨kl,0,none⟩ = some (.int .i64 (a:Int)) ∧ W.cell? ⟨kl,1,none⟩ = some (.int .i64 (b:Int))) [] (by kernel_rfl) ⟨k0,k1⟩ (fun hHeld=>?_)
      clear k0 k1
      have S5:=S4.drew
      generalize World.drew w4 = w5 at *
      refine takeU (i:=0) (v:=?_) (some 43) rfl rfl (by kernel_rfl) (by kernel_rfl) (by kernel_rfl) (fun _ _ _ h=>h) (Or.inl ⟨by rfl,?_⟩) ?_
      rotate_left
      ·intro w hSw; go_simp; (try with_reducible rfl)
      try simp only [Act.put,List.setIfInBounds_toArray,List.set_cons_succ,List.set_cons_zero]
      refine takeU (i:=1) (v:=?_) (some 44) rfl rfl (by kernel_rfl) (by kernel_rfl) (by kernel_rfl) (fun _ _ _ h=>h) (Or.inl ⟨by rfl,?_⟩) ?_
      rotate_left
      ·intro w hSw; go_simp; (try with_reducible rfl)
      try simp only [Act.put,List.setIfInBounds_toArray,List.set_cons_succ,List.set_cons_zero]
      refine takeZ (i:=2) (v:=?_) (some 45) rfl rfl (by kernel_rfl) (by kernel_rfl) (by kernel_rfl) (by kernel_rfl) (fun _ _ _ h=>h) (Or.inl ⟨by rfl,?_⟩) (by assumption) ?_
      rotate_left
      ·intro w hSw; (try dsimp only at hSw); go_simp; (try with_reducible rfl)
      try simp only [Act.put,List.setIfInBounds_toArray,List.set_cons_succ,List.set_cons_zero]
      refine takeU (i:=3) (v:=?_) (some 46) rfl rfl (by kernel_rfl) (by kernel_rfl) (by kernel_rfl) (fun _ _ _ h=>h) (Or.inl ⟨by rfl,?_⟩) ?_
      rotate_left
      ·intro w hSw; go_simp; (try with_reducible rfl)
      try simp only [Act.put,List.setIfInBounds_toArray,List.set_cons_succ,List.set_cons_zero]
      refine takeU (i:=4) (v:=?_) (some 47) rfl rfl (by kernel_rfl) (by kernel_rfl) (by kernel_rfl) (fun _ _ _ h=>h) (Or.inl ⟨by rfl,?_⟩) ?_
      rotate_left
      ·intro w hSw; go_simp; (try with_reducible rfl)
      try simp only [Act.put,List.setIfInBounds_toArray,List.set_cons_succ,List.set_cons_zero]
      refine takeZ (i:=5) (v:=?_) (some 48) rfl rfl (by kernel_rfl) (by kernel_rfl) (by kernel_rfl) (by kernel_rfl) (fun _ _ _ h=>h) (Or.inl ⟨by rfl,?_⟩) (by assumption) ?_
      rotate_left
      ·intro w hSw; (try dsimp only at hSw); go_simp; (try with_reducible rfl)
      try simp only [Act.put,List.setIfInBounds_toArray,List.set_cons_succ,List.set_cons_zero]
      refine takeU (i:=6) (v:=?_) (some 49) rfl rfl (by kernel_rfl) (by kernel_rfl) (by kernel_rfl) (fun _ _ _ h=>h) (Or.inl ⟨by rfl,?_⟩) ?_
      rotate_left
      ·intro w hSw; go_simp; (try with_reducible rfl)
      try simp only [Act.put,List.setIfInBounds_toArray,List.set_cons_succ,List.set_cons_zero]
      have f0:=S5.f 1 a rfl (boV_get hba2.out)
      have c0:=S5.c 1 a rfl (boV_get hba2.out)
      refine anyZ_ready (rs:=[7]) (by kernel_rfl) (by simp) ?_
      refine readyZ_cons rfl (fun K hK=>?_) readyZ_nil
      go_simp
      replace S5:=S5.set 1 a (.bool true) rfl (by rw [boV_len,hLn.out]; exact han) (by omega) (by simp; omega) _ rfl
      refine hK.out _ _ (fun _=>⟨S5.c 0 0 rfl rfl,S5.c 0 1 rfl rfl⟩) (fun hHeld0=>?_)
      replace hHeld:=hHeld0 (by decide)
      clear hK K hHeld0 f0 c0
      rw [boV_put] at S5
      have hLb:b < (L.set a true).length:=by rw [List.length_set,hLn.out]; exact hbn
      have f0:=S5.f 1 b rfl (boV_get (List.getElem?_eq_getElem hLb))
      have c0:=S5.c 1 b rfl (boV_get (List.getElem?_eq_getElem hLb))
      refine takeU (i:=8) (v:=?_) (some 50) rfl rfl (by kernel_rfl) (by kernel_rfl) (by kernel_rfl) (fun _ _ _ h=>h) (Or.inl ⟨by rfl,?_⟩) ?_
      rotate_left
      ·intro w hSw; go_simp; (try with_reducible rfl)
      try simp only [Act.put,List.setIfInBounds_toArray,List.set_cons_succ,List.set_cons_zero]
      refine anyZ_ready (rs:=[9]) (by kernel_rfl) (by simp) ?_
      refine readyZ_cons rfl (fun K hK=>?_) readyZ_nil
      go_simp
      replace S5:=S5.set 1 b (.bool true) rfl (by rw [boV_len]; exact hLb) (by omega) (by simp; omega) _ rfl
      refine hK.out _ _ (fun _=>⟨S5.c 0 0 rfl rfl,S5.c 0 1 rfl rfl⟩) (fun hHeld0=>?_)
      clear hK K hHeld0 f0 c0 hHeld
      rw [boV_put] at S5
      refine anyZ_done (by kernel_rfl) ?_ _
      refine NoPanic.normal ?_
      have S6:=S5.keepBoxes [(w.heap.size + 1,boV ((L.set a true).set b true)),(w.heap.size,[.int .i64 (n:Int),.slice A ko c,.slice (some ⟨pb,off,none⟩) m d])] (by simp)
      clear S5 S4 hLb hba2
      go_wp2_with fail
      go_round
      case rel=>exact ⟨q + 1,(L.set a true).set b true,by go_num,by omega,hI2,S6⟩
      case measure=>simp [intOf]; omega
     ·rcases Bool.eq_false_or_eq_true bb with rfl | rfl
      ·have hI2:=Lib.hid (hput.out L hI.out (.inr hbb))
       have hba2:=Lib.hid hba
       clear hba hbb
       go_upto_region 11 with fail
       clear j0 j1
       refine wp_region_noPanic ?_
       refine wp_region_Z (S:=fun W=>W.cell? ⟨kl,0,none⟩ = some (.int .i64 (a:Int)) ∧ W.cell? ⟨kl,1,none⟩ = some (.int .i64 (b:Int))) [] (by kernel_rfl) ⟨k0,k1⟩ (fun hHeld=>?_)
       clear k0 k1
       have S5:=S4.drew
       generalize World.drew w4 = w5 at *
       refine takeU (i:=0) (v:=?_) (some 43) rfl rfl (by kernel_rfl) (by kernel_rfl) (by kernel_rfl) (fun _ _ _ h=>h) (Or.inl ⟨by rfl,?_⟩) ?_
       rotate_left
       ·intro w hSw; go_simp; (try with_reducible rfl)
       try simp only [Act.put,List.setIfInBounds_toArray,List.set_cons_succ,List.set_cons_zero]
       refine takeU (i:=1) (v:=?_) (some 44) rfl rfl (by kernel_rfl) (by kernel_rfl) (by kernel_rfl) (fun _ _ _ h=>h) (Or.inl ⟨by rfl,?_⟩) ?_
       rotate_left
       ·intro w hSw; go_simp; (try with_reducible rfl)
       try simp only [Act.put,List.setIfInBounds_toArray,List.set_cons_succ,List.set_cons_zero]
       refine takeZ (i:=2) (v:=?_) (some 45) rfl rfl (by kernel_rfl) (by kernel_rfl) (by kernel_rfl) (by kernel_rfl) (fun _ _ _ h=>h) (Or.inl ⟨by rfl,?_⟩) (by assumption) ?_
       rotate_left
       ·intro w hSw; (try dsimp only at hSw); go_simp; (try with_reducible rfl)
       try simp only [Act.put,List.setIfInBounds_toArray,List.set_cons_succ,List.set_cons_zero]
       refine takeU (i:=3) (v:=?_) (some 46) rfl rfl (by kernel_rfl) (by kernel_rfl) (by kernel_rfl) (fun _ _ _ h=>h) (Or.inl ⟨by rfl,?_⟩) ?_
       rotate_left
       ·intro w hSw; go_simp; (try with_reducible rfl)
       try simp only [Act.put,List.setIfInBounds_toArray,List.set_cons_succ,List.set_cons_zero]
       refine takeU (i:=4) (v:=?_) (some 47) rfl rfl (by kernel_rfl) (by kernel_rfl) (by kernel_rfl) (fun _ _ _ h=>h) (Or.inl ⟨by rfl,?_⟩) ?_
       rotate_left
       ·intro w hSw; go_simp; (try with_reducible rfl)
       try simp only [Act.put,List.setIfInBounds_toArray,List.set_cons_succ,List.set_cons_zero]
       refine takeZ (i:=5) (v:=?_) (some 48) rfl rfl (by kernel_rfl) (by kernel_rfl) (by kernel_rfl) (by kernel_rfl) (fun _ _ _ h=>h) (Or.inl ⟨by rfl,?_⟩) (by assumption) ?_
       rotate_left
       ·intro w hSw; (try dsimp only at hSw); go_simp; (try with_reducible rfl)
       try simp only [Act.put,List.setIfInBounds_toArray,List.set_cons_succ,List.set_cons_zero]
       refine takeU (i:=6) (v:=?_) (some 49) rfl rfl (by kernel_rfl) (by kernel_rfl) (by kernel_rfl) (fun _ _ _ h=>h) (Or.inl ⟨by rfl,?_⟩) ?_
       rotate_left
       ·intro w hSw; go_simp; (try with_reducible rfl)
       try simp only [Act.put,List.setIfInBounds_toArray,List.set_cons_succ,List.set_cons_zero]
       have f0:=S5.f 1 a rfl (boV_get hba2.out)
       have c0:=S5.c 1 a rfl (boV_get hba2.out)
       refine anyZ_ready (rs:=[7]) (by kernel_rfl) (by simp) ?_
       refine readyZ_cons rfl (fun K hK=>?_) readyZ_nil
       go_simp
       replace S5:=S5.set 1 a (.bool true) rfl (by rw [boV_len,hLn.out]; exact han) (by omega) (by simp; omega) _ rfl
       refine hK.out _ _ (fun _=>⟨S5.c 0 0 rfl rfl,S5.c 0 1 rfl rfl⟩) (fun hHeld0=>?_)
       replace hHeld:=hHeld0 (by decide)
       clear hK K hHeld0 f0 c0
       rw [boV_put] at S5
       have hLb:b < (L.set a true).length:=by rw [List.length_set,hLn.out]; exact hbn
       have f0:=S5.f 1 b rfl (boV_get (List.getElem?_eq_getElem hLb))
       have c0:=S5.c 1 b rfl (boV_get (List.getElem?_eq_getElem hLb))
       refine takeU (i:=8) (v:=?_) (some 50) rfl rfl (by kernel_rfl) (by kernel_rfl) (by kernel_rfl) (fun _ _ _ h=>h) (Or.inl ⟨by rfl,?_⟩) ?_
       rotate_left
       ·intro w hSw; go_simp; (try with_reducible rfl)
       try simp only [Act.put,List.setIfInBounds_toArray,List.set_cons_succ,List.set_cons_zero]
       refine anyZ_ready (rs:=[9]) (by kernel_rfl) (by simp) ?_
       refine readyZ_cons rfl (fun K hK=>?_) readyZ_nil
       go_simp
       replace S5:=S5.set 1 b (.bool true) rfl (by rw [boV_len]; exact hLb) (by omega) (by simp; omega) _ rfl
       refine hK.out _ _ (fun _=>⟨S5.c 0 0 rfl rfl,S5.c 0 1 rfl rfl⟩) (fun hHeld0=>?_)
       clear hK K hHeld0 f0 c0 hHeld
       rw [boV_put] at S5
       refine anyZ_done (by kernel_rfl) ?_ _
       refine NoPanic.normal ?_
       have S6:=S5.keepBoxes [(w.heap.size + 1,boV ((L.set a true).set b true)),(w.heap.size,[.int .i64 (n:Int),.slice A ko c,.slice (some ⟨pb,off,none⟩) m d])] (by simp)
       clear S5 S4 hLb hba2
       go_wp2_with fail
       go_round
       case rel=>exact ⟨q + 1,(L.set a true).set b true,by go_num,by omega,hI2,S6⟩
       case measure=>simp [intOf]; omega
      ·replace S4:=S4.keepBoxes [(w.heap.size + 1,boV L),(w.heap.size,[.int .i64 (n:Int),.slice A ko c,.slice (some ⟨pb,off,none⟩) m d])] (by simp)
       clear hba hbb
       go_wp2_with fail
       clear k0 k1 j0 j1
       go_round
       case rel=>exact ⟨q + 1,L,by go_num,by omega,hI,S4⟩
       case measure=>simp [intOf]; omega
    ·go_wp2_with fail
     go_round
     case rel=>exact ⟨r + 1,L,by go_num,by omega,hI,S⟩
     case measure=>simp [intOf]; omega
  ·obtain rfl:r = n:=by omega
   go_upto_region 12 with fail
   clear a0
   go_wp2_with fail
   go_loopw [7] (fun v7 wr=>∃ (j:Nat),v7 = .int .i64 j ∧ j ≤ r ∧ Hid (∀ i:Nat,i < j → L[i]? = some true) ∧ St w wr [(w.heap.size + 1,boV L),(w.heap.size,[.int .i64 (r:Int),.slice A ko c,.slice B m d])] [(B,lksV ll)]) (fun v7 _=>r - (intOf v7).toNat)
   case atStart=>exact ⟨0,rfl,by omega,Lib.hid (fun i h=>absurd h (by omega)),S⟩
   case round =>
    clear S
    obtain ⟨j,rfl,hj,hA,S⟩:=hrel
    by_cases hjr:j < r
    ·obtain ⟨bj,hbj⟩:∃ bj,L[j]? = some bj:=⟨_,List.getElem?_eq_getElem (by have:=hI.out.1; omega)⟩
     have j0:=S.c 0 j rfl (boV_get hbj)
     rcases Bool.eq_false_or_eq_true bj with rfl | rfl
     ·have hA2:Hid (∀ i:Nat,i < j + 1 → L[i]? = some true):=Lib.hid (fun i h=>by
       rcases Nat.lt_or_ge i j with h1 | h1
       ·exact hA.out i h1
       ·have:i = j:=by omega
        subst this; exact hbj)
      clear hbj
      go_wp2_with fail
      go_round
      case rel=>exact ⟨j + 1,by go_num,by omega,hA2,S⟩
      case measure=>simp [intOf]; omega
     ·have hb9:=S.b
      clear hbj S
      go_wp2_with fail
      go_ret
      exact ⟨false,rfl,fun h=>absurd h (by decide),hb9⟩
    ·obtain rfl:r = j:=by omega
     have hfin:Hid (∀ j,j < r → Cnn ll j):=Lib.hid (fun i hi=>hI.out.2 i (hA.out i hi))
     have hb9:=S.b
     clear S
     go_wp2_with fail
     go_ret
     exact ⟨true,rfl,fun _=>hfin.out,hb9⟩
end Go.Proofs.YtehimhbgakpenaaGreat
