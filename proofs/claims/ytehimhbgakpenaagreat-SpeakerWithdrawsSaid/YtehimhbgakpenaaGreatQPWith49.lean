/-
  The texts Nw6, Nw7, one after the other.
-/
import Derived.Test.YtehimhbgakpenaaGreatQPWith47
import Derived.Test.YtehimhbgakpenaaGreatQPWith48
import Derived.Test.YtehimhbgakpenaaGreatQPWith46
namespace Go.Proofs.YtehimhbgakpenaaGreat
set_option linter.unusedVariables false
set_option linter.unusedSimpArgs false
open Go.RowKit Go.Maps Go.Sort
theorem SpAt.recol2 {w:World} {m:Sm} {S:Sp} {col col':Nat → Nat} {c:Nat} (h:SpAt w m S col c) (h1:∀ k,col k = c → col' k = c) (h2:∀ k,col k = 0 → col' k = 0):SpAt w m S col' c :=
 ⟨h.bx,h.tg,h.po,h.rO,h.rL,h.rB,h.lB,h.lT,h.db,h.fl,h.og,h.tO,h.ty,h1 _ h.cg,fun k hk=>h1 _ (h.cP k hk),h1 _ h.co,h1 _ h.cd,h1 _ h.cf,fun i hi hs=>h1 _ (h.cF i hi hs),⟨h2 _ h.z.1,h2 _ h.z.2⟩,h.ne,h.c0⟩
structure Bd (w wr:World) (N:Nm) (t:Tp) (h1 h2 h3:Int) (n1 n2:Nat) (P1:Option Addr) (d1 m1:Nat) (P2:Option Addr) (d2 m2:Nat) (cnt:Nat):Prop where
 bx:Box wr N.g [.int .i64 t.n,.slice N.O t.ov.length N.cO,.slice N.L t.ln.length N.cL,.slice N.A1 n1 N.c1,.slice N.A2 n2 N.c2]
 tg:Ty wr N.g 85
 gB:w.heap.size ≤ N.g
 rp:wr.ownsRow w.heap.size 31 1 (.slice P1 m1 d1) m1 (ptrN N.M m1)
 rq:wr.ownsRow w.heap.size 3 1 (.slice P2 m2 d2) m2 (List.replicate m2 (.int .i64 1))
 sp:∀ j,j < cnt → SpAt wr (N.M j) (newS t j h1 h2 h3) N.col (j + 1)
 nk:∀ j,j < cnt → ∀ k,(k = N.g ∨ (Value.slice P1 m1 d1).ownBlock = some k ∨ (Value.slice P2 m2 d2).ownBlock = some k) → k ≠ (N.M j).gd ∧ k ≠ (N.M j).gf
 rO:Rd wr N.O (boV t.ov) ∧ ∀ ad,0 < t.ov.length → N.O = some ad → ad.block < w.heap.size
 rL:Rd wr N.L (lksV t.ln) ∧ ∀ ad,0 < t.ln.length → N.L = some ad → ad.block < w.heap.size
 lT:t.ov.length ≤ maxLen ∧ t.ln.length ≤ maxLen
 bel:Below w.heap.size w wr
 cl:∀ k,N.col k ≤ cnt
 c0:∀ k,k < w.heap.size → N.col k = 0
section
variable {w wr w':World} {N:Nm} {t:Tp} {h1 h2 h3:Int} {n1 n2:Nat} {P1:Option Addr} {d1 m1:Nat} {P2:Option Addr} {d2 m2 cnt:Nat}
theorem Bd.below (h:Bd w wr N t h1 h2 h3 n1 n2 P1 d1 m1 P2 d2 m2 cnt) (hb:Below wr.heap.size wr w'):Bd w w' N t h1 h2 h3 n1 n2 P1 d1 m1 P2 d2 m2 cnt :=
 ⟨h.bx.later hb,TyPres.below hb _ _ h.tg,h.gB,own_below h.rp hb,own_below h.rq hb,fun j hj=>(h.sp j hj).below hb,h.nk,⟨h.rO.1.below hb,h.rO.2⟩,⟨h.rL.1.below hb,h.rL.2⟩,h.lT,h.bel.trans (hb.mono h.bel.size),h.cl,h.c0⟩
theorem Bd.app1 (h:Bd w wr N t h1 h2 h3 n1 n2 P1 d1 m1 P2 d2 m2 cnt) (hg:wr.grownBy w' (Value.slice P1 m1 d1).ownBlock) {A':Option Addr} {c':Nat} (hor:(Value.slice A' (m1 + 1) c').ownBlock = (Value.slice P1 m1 d1).ownBlock ∨ (Value.slice A' (m1 + 1) c').ownBlock = some wr.heap.size)
  (ho:w'.ownsRow w.heap.size 31 1 (.slice A' (m1 + 1) c') (m1 + 1) (ptrN N.M (m1 + 1))):Bd w w' N t h1 h2 h3 n1 n2 A' c' (m1 + 1) P2 d2 m2 cnt:=by
 have hr:=h.rp
 have hbl:∀ k,k < wr.heap.size → (∀ T',T' ≠ 31 → Ty wr k T' → w'.heap[k]? = wr.heap[k]?):=fun k hk T' hT ht=>ty_other ht hr hT hg
 have hlow:∀ k,k < w.heap.size → w'.heap[k]? = wr.heap[k]?:=fun k hk=>hg.block k (Nat.lt_of_lt_of_le hk h.bel.size) (fun e=>by have:=(hr.lt k e.symm).1; omega)
 have hsp:∀ j,j < cnt → SpAt w' (N.M j) (newS t j h1 h2 h3) N.col (j + 1):=fun j hj=>by
  rcases e:(Value.slice P1 m1 d1).ownBlock with _ | k
  ·rw [e] at hg
   exact (h.sp j hj).below ⟨hg.os,hg.tape,hg.output,hg.size,fun q hq=>hg.block q hq (by simp)⟩
  ·rw [e] at hg
   have hne:=h.nk j hj k (.inr (.inl e))
   exact (h.sp j hj).app hg (own_ty0 hr e) (.inr (.inr (.inl rfl))) hne.1 hne.2
 have hbg:=hbl _ (ty_lt h.tg) _ (by decide) h.tg
 refine ⟨fun i u hu=>?_,?_,h.gB,ho,own_other h.rq hr (by decide) hg,hsp,fun j hj k hk=>?_,⟨rd_old h.rO.1 h.rO.2 (by rw [boV_len]; exact id) hlow,h.rO.2⟩,⟨rd_old h.rL.1 h.rL.2 (by rw [lksV_len]; omega) hlow,h.rL.2⟩,h.lT,h.bel.trans ⟨hg.os,hg.tape,hg.output,hg.size,hlow⟩,h.cl,h.c0⟩
 ·obtain ⟨a,b⟩:=h.bx i u hu
  exact ⟨(World.cell?_of_block (a:=⟨N.g,i,none⟩) hbg).trans a,(World.frozen?_of_block (a:=⟨N.g,i,none⟩) hbg).trans b⟩
 ·obtain ⟨cur,fr,e⟩:=h.tg
  exact ⟨cur,fr,hbg.trans e⟩
 ·have hlt:=(h.sp j hj).db.lt.1
  have hlf:=(h.sp j hj).fl.lt.1
  rcases hk with e | e | e
  ·exact h.nk j hj k (.inl e)
  ·rcases hor with e2 | e2 <;> rw [e2] at e; exact h.nk j hj k (.inr (.inl e)); injection e with e; omega
  ·exact h.nk j hj k (.inr (.inr e))
theorem Bd.app2 (h:Bd w wr N t h1 h2 h3 n1 n2 P1 d1 m1 P2 d2 m2 cnt) (hg:wr.grownBy w' (Value.slice P2 m2 d2).ownBlock) {A':Option Addr} {c':Nat} (hor:(Value.slice A' (m2 + 1) c').ownBlock = (Value.slice P2 m2 d2).ownBlock ∨ (Value.slice A' (m2 + 1) c').ownBlock = some wr.heap.size)
  (ho:w'.ownsRow w.heap.size 3 1 (.slice A' (m2 + 1) c') (m2 + 1) (List.replicate (m2 + 1) (.int .i64 1))):Bd w w' N t h1 h2 h3 n1 n2 P1 d1 m1 A' c' (m2 + 1) cnt:=by
 have hr:=h.rq
 have hbl:∀ k,k < wr.heap.size → (∀ T',T' ≠ 3 → Ty wr k T' → w'.heap[k]? = wr.heap[k]?):=fun k hk T' hT ht=>ty_other ht hr hT hg
 have hlow:∀ k,k < w.heap.size → w'.heap[k]? = wr.heap[k]?:=fun k hk=>hg.block k (Nat.lt_of_lt_of_le hk h.bel.size) (fun e=>by have:=(hr.lt k e.symm).1; omega)
 have hsp:∀ j,j < cnt → SpAt w' (N.M j) (newS t j h1 h2 h3) N.col (j + 1):=fun j hj=>by
  rcases e:(Value.slice P2 m2 d2).ownBlock with _ | k
  ·rw [e] at hg
   exact (h.sp j hj).below ⟨hg.os,hg.tape,hg.output,hg.size,fun q hq=>hg.block q hq (by simp)⟩
  ·rw [e] at hg
   have hne:=h.nk j hj k (.inr (.inr e))
   exact (h.sp j hj).app hg (own_ty0 hr e) (.inr (.inr (.inr (.inl rfl)))) hne.1 hne.2
 have hbg:=hbl _ (ty_lt h.tg) _ (by decide) h.tg
 refine ⟨fun i u hu=>?_,?_,h.gB,own_other h.rp hr (by decide) hg,ho,hsp,fun j hj k hk=>?_,⟨rd_old h.rO.1 h.rO.2 (by rw [boV_len]; exact id) hlow,h.rO.2⟩,⟨rd_old h.rL.1 h.rL.2 (by rw [lksV_len]; omega) hlow,h.rL.2⟩,h.lT,h.bel.trans ⟨hg.os,hg.tape,hg.output,hg.size,hlow⟩,h.cl,h.c0⟩
 ·obtain ⟨a,b⟩:=h.bx i u hu
  exact ⟨(World.cell?_of_block (a:=⟨N.g,i,none⟩) hbg).trans a,(World.frozen?_of_block (a:=⟨N.g,i,none⟩) hbg).trans b⟩
 ·obtain ⟨cur,fr,e⟩:=h.tg
  exact ⟨cur,fr,hbg.trans e⟩
 ·have hlt:=(h.sp j hj).db.lt.1
  have hlf:=(h.sp j hj).fl.lt.1
  rcases hk with e | e | e
  ·exact h.nk j hj k (.inl e)
  ·exact h.nk j hj k (.inr (.inl e))
  ·rcases hor with e2 | e2 <;> rw [e2] at e; exact h.nk j hj k (.inr (.inr e)); injection e with e; omega
theorem Bd.st (h:Bd w wr N t h1 h2 h3 n1 n2 P1 d1 m1 P2 d2 m2 cnt) (j:Nat) (u:Value) {N':Nm} {n1' n2':Nat} (hj:j < 5)
  (hs:([.int .i64 t.n,.slice N.O t.ov.length N.cO,.slice N.L t.ln.length N.cL,.slice N.A1 n1 N.c1,.slice N.A2 n2 N.c2]:List Value).set j u = [.int .i64 t.n,.slice N'.O t.ov.length N'.cO,.slice N'.L t.ln.length N'.cL,.slice N'.A1 n1' N'.c1,.slice N'.A2 n2' N'.c2]) (e:N'.g = N.g ∧ N'.O = N.O ∧ N'.L = N.L ∧ N'.M = N.M ∧ N'.col = N.col) :
  Bd w (wr.setCell ⟨N.g,j,none⟩ u) N' t h1 h2 h3 n1' n2' P1 d1 m1 P2 d2 m2 cnt:=by
 have he:Ef2 (fun k=>k = N.g) wr (wr.setCell ⟨N.g,j,none⟩ u):=Ef2.cells (grownBy_set wr N.g j u) h.tg (.inr (.inr (.inr (.inr rfl)))) rfl
 obtain ⟨e1,e2,e3,e4,e5⟩:=e
 have hbx:=h.bx.set j u (by simpa using hj)
 rw [hs] at hbx
 have hlow:∀ k,k < w.heap.size → (wr.setCell ⟨N.g,j,none⟩ u).heap[k]? = wr.heap[k]?:=fun k hk=>heap_setCell_other wr _ _ u (fun e=>by have:=h.gB; simp only at e; omega)
 have hrow:∀ {T:TypeId} {v:Value} {n:Nat} {xs:List Value},wr.ownsRow w.heap.size T 1 v n xs → T ≠ 85 → (wr.setCell ⟨N.g,j,none⟩ u).ownsRow w.heap.size T 1 v n xs:=fun {T v n xs} ho hT =>
  he.ownE ho fun k hk ek=>hT (ty_ty (own_ty0 ho hk) (by rw [ek]; exact h.tg))
 refine ⟨by rw [e1]; exact hbx,by rw [e1]; exact (TyPres.set _ _ _) _ _ h.tg,by rw [e1]; exact h.gB,by rw [e4]; exact hrow h.rp (by decide),hrow h.rq (by decide),fun i hi=>?_,?_,⟨by rw [e2]; exact rd_old h.rO.1 h.rO.2 (by rw [boV_len]; exact id) hlow,by rw [e2]; exact h.rO.2⟩,⟨by rw [e3]; exact rd_old h.rL.1 h.rL.2 (by rw [lksV_len]; omega) hlow,by rw [e3]; exact h.rL.2⟩,h.lT,?_,by rw [e5]; exact h.cl,by rw [e5]; exact h.c0⟩
 ·rw [e4,e5]
  have hne:=h.nk i hi N.g (.inl rfl)
  exact (h.sp i hi).app (grownBy_set wr N.g j u) h.tg (.inr (.inr (.inr (.inr rfl)))) hne.1 hne.2
 ·rw [e1,e4]; exact h.nk
 ·exact h.bel.setCell (p:=⟨N.g,j,none⟩) h.gB u
theorem Bd.new (h:Bd w wr N t h1 h2 h3 n1 n2 P1 d1 m1 P2 d2 m2 cnt) {m:Sm} {col':Nat → Nat} (hc:∀ k,k < wr.heap.size → col' k = N.col k) (hs:SpAt w' m (newS t cnt h1 h2 h3) col' (cnt + 1)) (hb:Below wr.heap.size wr w') (hg:wr.heap.size ≤ m.gd ∧ wr.heap.size ≤ m.gf) (hm1:m1 ≤ cnt) :
  Bd w w' { N with M:=fun j=>if j = cnt then m else N.M j,col:=fun k=>if col' k = cnt + 1 then cnt + 1 else if k < wr.heap.size then N.col k else 0 } t h1 h2 h3 n1 n2 P1 d1 m1 P2 d2 m2 (cnt + 1):=by
 have hB:=h.below hb
 have hcc:∀ k,k < wr.heap.size → (fun k=>if col' k = cnt + 1 then cnt + 1 else if k < wr.heap.size then N.col k else 0) k = N.col k:=fun k hk=>by
  have h4:=h.cl k
  simp only
  rw [if_neg (by rw [hc k hk]; omega),if_pos hk]
 have hptr:ptrN (fun j=>if j = cnt then m else N.M j) m1 = ptrN N.M m1:=by
  unfold ptrN
  refine List.map_congr_left fun j hj=>?_
  rw [List.mem_range] at hj
  simp only [if_neg (show ¬ j = cnt by omega)]
 refine ⟨hB.bx,hB.tg,hB.gB,by simp only [hptr]; exact hB.rp,hB.rq,fun j hj=>?_,fun j hj k hk=>?_,hB.rO,hB.rL,hB.lT,hB.bel,fun k=>?_,fun k hk=>?_⟩
 ·by_cases e:j = cnt
  ·subst e
   simp only [if_true]
   refine hs.recol2 (fun k hk=>by (try simp only); rw [if_pos hk]) (fun k hk=>?_)
   (try simp only)
   rw [if_neg (by rw [hk]; omega)]
   split
   ·next h5=>rw [← hc k h5]; exact hk
   ·rfl
  ·simp only [if_neg e]
   exact ((h.sp j (by omega)).recol hcc).below hb
 ·by_cases e:j = cnt
  ·subst e
   simp only [if_true]
   have hk2:k < wr.heap.size:=by
    rcases hk with e | e | e
    ·rw [e]; exact ty_lt h.tg
    ·exact (h.rp.lt k e).2
    ·exact (h.rq.lt k e).2
   exact ⟨by omega,by omega⟩
  ·simp only [if_neg e]
   exact h.nk j (by omega) k hk
 ·have h4:=h.cl k
  simp only
  split
  ·omega
  ·split <;> omega
 ·have h4:=h.bel.size
  exact (hcc k (by omega)).trans (h.c0 k hk)
end
end Go.Proofs.YtehimhbgakpenaaGreat

namespace Go.Proofs.YtehimhbgakpenaaGreat
set_option linter.unusedVariables false
set_option linter.unusedSimpArgs false
open Go.RowKit Go.Maps Go.Sort
section
variable {P:Program} {t e:TypeId} {z:Value} {size bytes:Nat}
theorem step_appH {w:World} {ops:Array Oper} {o:Oper} {a:Act} {K:Act → World → Prop} {Q:Exit → Act → World → Prop} {F:Prop} (hgd:o.guard = none) (hE:ElemT P t e z size bytes) (s x:Operand)
  (ho:o.op = .call { callee:=.builtin .append,args:=#[s,x],argTypes:=#[t,t] }) (base:Nat) {v:Value} {n:Nat} {xs:List Value} (hs:a.eval s = v) (hown:w.ownsRow base e size v n xs)
  {A:Option Addr} {m c:Nat} {news:List Value} (hx:a.eval x = .slice A m c) (hl:news.length = m * size) (hr:Rd w A news) (h1:∀ u ∈ news,u.oneCell' = true)
  (h63:n + m ≤ maxLen) (hbytes:(n + m) * bytes ≤ 140737488355328) (hbase:base ≤ w.heap.size) (N:Nat) (L:List Value) (hN:n + m = N) (hL:xs ++ news = L)
  (h:∀ v' w',w'.ownsRow base e size v' N L → Below base w w' → w.grownBy w' v.ownBlock → (v'.ownBlock = v.ownBlock ∨ v'.ownBlock = some w.heap.size) → K (a.put o.dst v') w') :
  if Region.wanted o (yielded ops a.tmps) = true then Oper.wp P o a w K Q else F:=by
 have hw:Region.wanted o (yielded ops a.tmps) = true:=by simp [Region.wanted,hgd]
 rw [if_pos hw]
 subst hN hL
 obtain ⟨v',w',hrun,h2,h3,h4⟩:=run_app (P:=P) w hE o.type base hown (c:=c) hl hr h1 h63 hbytes hbase
 unfold Oper.wp execOp
 simp only [ho,resolve,invoke,builtin,Sem.run_bind,Sem.run_pure,Result.andThen_ok,List.map_toArray,List.map_cons,List.map_nil,hs,hx,hrun]
 exact h v' w' h2 (below_own (Below.refl _ _) hown h3 (Nat.le_refl _) hbase) h3 h4
end
theorem pspT:ElemT Tryz.prog 83 31 (.pointer none) 1 8:=⟨Tryz.underlying83,by kernel_rfl,rfl,by omega⟩
theorem ins1 (i:Int):∀ u ∈ [Value.int .i64 i],u.oneCell' = true:=by
 intro u hu
 rw [List.mem_singleton.1 hu]; rfl
theorem ptr1 (p:Option Addr):∀ u ∈ [Value.pointer p],u.oneCell' = true:=by
 intro u hu
 rw [List.mem_singleton.1 hu]; rfl
theorem litP (w:World) (x:Value) (e:TypeId):(w.alloc (.cells #[x] e)).ownsRow w.heap.size e 1 (.slice (some ⟨w.heap.size,0,none⟩) 1 1) 1 [x] :=
 World.ownsRow_lit (base:=w.heap.size) (e:=e) (size:=1) w #[x] 1 (Nat.le_refl _) (by unfold maxLen; omega) (by simp)
theorem ptrN_succ (M:Nat → Sm) (i:Nat):ptrN M i ++ [.pointer (some ⟨(M i).g,0,none⟩)] = ptrN M (i + 1):=by
 unfold ptrN
 rw [List.range_succ,List.map_append]
 rfl
theorem one_succ (i:Nat):List.replicate i (Value.int .i64 1) ++ [.int .i64 1] = List.replicate (i + 1) (.int .i64 1):=by
 rw [List.replicate_succ']
def NbP (w:World) (n:Nat) (t:Tp) (h1 h2 h3:Int) (e:Ending) (w':World):Prop :=
 ∃ N w1,e = .returned (.tuple #[.pointer (some ⟨N.g,0,none⟩),.bool true]) ∧ NtwAt w1.heap.size w'.heap.size w1 w' N n t (fun i=>newS t i h1 h2 h3) ∧ Below w.heap.size w w1
theorem Bd.done {w1 w:World} {N:Nm} {n:Nat} {t:Tp} {h1 h2 h3:Int} (h:Bd w1 w N t h1 h2 h3 n n N.A1 N.c1 n N.A2 N.c2 n n):NtwAt w1.heap.size w.heap.size w1 w N n t (fun i=>newS t i h1 h2 h3) :=
 ⟨h.bx,h.tg,ty_lt h.tg,h.rp,h.rO,h.rL,h.lT,h.sp,h.c0,fun i hi=>⟨(h.sp i hi).db.lt.1,(h.sp i hi).fl.lt.1⟩,h.bel,h.bel.size,Nat.le_refl _⟩
set_option maxRecDepth 100000 in
set_option maxHeartbeats 12800000 in
theorem nbuild_any (w:World) (v:Value) (t:Tp) (n:Nat) (ht:TpAt w v t) (hT:TpOk t) (hn:t.n = n) (hn9:n ≤ 1000) (h1 h2 h3:Int) (htm:tmB h1 h2 h3 = true) :
  Calls Tryz.prog 19 #[v,.agg #[.int .i64 h1,.int .i64 h2,.int .i64 h3]] w (NbP w n t h1 h2 h3):=by
 have ht':=ht
 obtain ⟨A,c,B,d,rfl,rA,rB,l1,l2⟩:=ht
 have S:=((St.start w).new' #[.int .i64 t.n,.slice A t.ov.length c,.slice B t.ln.length d] 25 w.heap.size _ rfl rfl).new' #[.int .i64 h1,.int .i64 h2,.int .i64 h3] 27 (w.heap.size + 1) _ (by simp) rfl
 have rl:(∀ ad,0 < t.ov.length → A = some ad → ad.block < w.heap.size) ∧ ∀ ad,0 < t.ln.length → B = some ad → ad.block < w.heap.size:=by
  refine ⟨fun ad hl e=>?_,fun ad hl e=>?_⟩
  ·obtain ⟨ad',e',hlt⟩:=rA.block (by rw [boV_len]; exact hl)
   rw [e] at e'; injection e' with e'; rw [e']; exact hlt
  ·obtain ⟨ad',e',hlt⟩:=rB.block (by rw [lksV_len]; omega)
   rw [e] at e'; injection e' with e'; rw [e']; exact hlt
 have hS1:=S
 obtain ⟨w1,hw1⟩:∃ W,(w.alloc (.cells #[.int .i64 t.n,.slice A t.ov.length c,.slice B t.ln.length d] 25)).alloc (.cells #[.int .i64 h1,.int .i64 h2,.int .i64 h3] 27) = W:=⟨_,rfl⟩
 rw [hw1] at S
 have hbw:=S.b
 have hb2:=below_new' w1 (.cells #[.int .i64 t.n,.slice A t.ov.length c,.slice B t.ln.length d,.slice none 0 0,.slice none 0 0] 85)
 have hbx:=Box.new' w1 #[.int .i64 t.n,.slice A t.ov.length c,.slice B t.ln.length d,.slice none 0 0,.slice none 0 0] 85 w1.heap.size _ rfl rfl
 have BD:Bd w1 (w1.alloc (.cells #[.int .i64 t.n,.slice A t.ov.length c,.slice B t.ln.length d,.slice none 0 0,.slice none 0 0] 85)) ⟨w1.heap.size,A,c,B,d,none,0,none,0,fun _=>⟨0,none,0,0,0,0,0,0,fun _=>0,none,0,none,0,none,0⟩,fun _=>0⟩ t h1 h2 h3 0 0 none 0 0 none 0 0 0 :=
  ⟨hbx,⟨_,_,heap_alloc_new w1 _⟩,Nat.le_refl _,World.ownsRow_nil _ _ _ _,World.ownsRow_nil _ _ _ _,fun j hj=>absurd hj (by omega),fun j hj=>absurd hj (by omega),⟨(rA.below hbw).below hb2,fun ad a b=>Nat.lt_of_lt_of_le (rl.1 ad a b) hbw.size⟩,⟨(rB.below hbw).below hb2,fun ad a b=>Nat.lt_of_lt_of_le (rl.2 ad a b) hbw.size⟩,⟨l1,l2⟩,hb2,fun _=>Nat.le_refl _,fun _ _=>rfl⟩
 have TW:Hid (∀ W,Below w1.heap.size w1 W → TpAt W (.agg #[.int .i64 t.n,.slice A t.ov.length c,.slice B t.ln.length d]) t ∧ St w W [(w.heap.size + 1,[.int .i64 h1,.int .i64 h2,.int .i64 h3]),(w.heap.size,[.int .i64 t.n,.slice A t.ov.length c,.slice B t.ln.length d])] []):=fun W hb=>⟨(ht'.below hbw).below hb,S.call hb⟩
 replace BD:=Lib.hid BD
 clear ht' rA rB rl hS1 hbx hb2
 replace hn:=Lib.hid hn
 go_enter Tryz.func19,Tryz.ntmps19
 go_upto_region 1 with fail
 clear hw1
 have a0:=S.c 1 0 rfl rfl
 have a1:=S.c 1 1 rfl rfl
 have a2:=S.c 1 2 rfl rfl
 go_upto_region 2 with fail
 clear S a0 a1 a2
 generalize World.alloc w1 _ = w2 at *
 replace hbw:=Lib.hid hbw
 go_wp2_with fail
 go_loopw [7] (fun v7 wr=>∃ (i:Nat) (N:Nm),v7 = .int .i64 i ∧ i ≤ n ∧ N.g = w1.heap.size ∧ Hid (Bd w1 wr N t h1 h2 h3 i i N.A1 N.c1 i N.A2 N.c2 i i)) (fun v7 _=>n - (intOf v7).toNat)
 case atStart=>exact ⟨0,_,rfl,by omega,rfl,BD⟩
 case round =>
  clear BD
  obtain ⟨i,N,rfl,hi,hg,B1⟩:=hrel
  obtain ⟨T1,SS⟩:=TW.out _ B1.out.bel
  have a0:=SS.c 1 0 rfl rfl
  have a1:=SS.c 1 1 rfl rfl
  have a2:=SS.c 1 2 rfl rfl
  by_cases hin:i < n
  ·have b0:=SS.c 0 0 rfl rfl
   have b1:=SS.c 0 1 rfl rfl
   have b2:=SS.c 0 2 rfl rfl
   have elt:decide ((i:Int) < t.n) = true:=by have:=hn.out; simp; omega
   have SN:=spNew_any wr _ t (i:Int) h1 h2 h3 T1 hT ⟨by omega,by have:=hn.out; omega⟩ htm N.col (i + 1) (by omega) (fun k hk=>by have:=B1.out.cl k; omega)
   replace SN:=Lib.hid SN
   clear T1 SS
   go_wp2_with fail
   (with_reducible refine (SN.out).mono ?_)
   rintro e w3 ⟨m,col',rfl,hcol,hs,hb,hg3⟩
   clear SN a0 a1 a2 b0 b1 b2
   have B2:=B1.out.new hcol hs hb hg3 (Nat.le_refl _)
   clear B1 hs hb hg3 hcol
   have hmg:(({ N with M:=fun j=>if j = i then m else N.M j,col:=fun k=>if col' k = i + 1 then i + 1 else if k < wr.heap.size then N.col k else 0 }:Nm).M i).g = m.g:=by simp
   have hmA:∀ N2:Nm,N2 = { N with M:=fun j=>if j = i then m else N.M j,col:=fun k=>if col' k = i + 1 then i + 1 else if k < wr.heap.size then N.col k else 0 } → N2.g = w1.heap.size ∧ N2.A1 = N.A1 ∧ N2.c1 = N.c1 ∧ N2.A2 = N.A2 ∧ N2.c2 = N.c2 ∧ (N2.M i).g = m.g:=fun N2 e=>by subst e; exact ⟨hg,rfl,rfl,rfl,rfl,by simp⟩
   obtain ⟨N2,hN2⟩:∃ N2:Nm,N2 = { N with M:=fun j=>if j = i then m else N.M j,col:=fun k=>if col' k = i + 1 then i + 1 else if k < wr.heap.size then N.col k else 0 }:=⟨_,rfl⟩
   obtain ⟨hg2,e1,e2,e3,e4,e5⟩:=hmA N2 hN2
   rw [← hN2,← e1,← e2,← e3,← e4] at B2
   rw [← e5]
   clear hmA hN2 hmg e1 e2 e3 e4 e5 hg
   have x0:=B2.bx.c 3 rfl
   have x1:=B2.bx.c 4 rfl
   rw [hg2] at x0 x1
   replace hg2:=Lib.hid hg2
   go_upto_region 8 with fail
   refine wp_region_noPanic ?_
   refine wp_region_Z (S:=fun W=>W.cell? ⟨w1.heap.size,3,none⟩ = some (.slice N2.A1 i N2.c1) ∧ W.cell? ⟨w1.heap.size,4,none⟩ = some (.slice N2.A2 i N2.c2)) [17,18,19,20] (by kernel_rfl) ⟨x0,x1⟩ (fun hHeld=>?_)
   have V:=B2.below (w':=w3.drew) (Below.refl _ _).drew
   clear B2 x0 x1
   generalize World.drew w3 = wq at *
   refine takeU (i:=0) (v:=?_) (some 28) rfl rfl (by kernel_rfl) (by kernel_rfl) (by kernel_rfl) (fun _ _ _ h=>h) (Or.inl ⟨by rfl,?_⟩) ?_
   rotate_left
   ·intro w hSw; go_simp; (try with_reducible rfl)
   try simp only [Act.put,List.setIfInBounds_toArray,List.set_cons_succ,List.set_cons_zero]
   refine takeU (i:=1) (v:=?_) (some 29) rfl rfl (by kernel_rfl) (by kernel_rfl) (by kernel_rfl) (fun _ _ _ h=>h) (Or.inl ⟨by rfl,?_⟩) ?_
   rotate_left
   ·intro w hSw; go_simp; (try with_reducible rfl)
   try simp only [Act.put,List.setIfInBounds_toArray,List.set_cons_succ,List.set_cons_zero]
   refine takeU (i:=2) (v:=?_) (some 30) rfl rfl (by kernel_rfl) (by kernel_rfl) (by kernel_rfl) (fun _ _ _ h=>h) (Or.inl ⟨by rfl,?_⟩) ?_
   rotate_left
   ·intro w hSw; go_simp; (try with_reducible rfl)
   try simp only [Act.put,List.setIfInBounds_toArray,List.set_cons_succ,List.set_cons_zero]
   refine takeU (i:=3) (v:=?_) (some 31) rfl rfl (by kernel_rfl) (by kernel_rfl) (by kernel_rfl) (fun _ _ _ h=>h) (Or.inl ⟨by rfl,?_⟩) ?_
   rotate_left
   ·intro w hSw; go_simp; (try with_reducible rfl)
   try simp only [Act.put,List.setIfInBounds_toArray,List.set_cons_succ,List.set_cons_zero]
   refine takeU (i:=4) (v:=?_) (some 32) rfl rfl (by kernel_rfl) (by kernel_rfl) (by kernel_rfl) (fun _ _ _ h=>h) (Or.inl ⟨by rfl,?_⟩) ?_
   rotate_left
   ·intro w hSw; go_simp; (try with_reducible rfl)
   try simp only [Act.put,List.setIfInBounds_toArray,List.set_cons_succ,List.set_cons_zero]
   refine takeZ (i:=5) (v:=?_) (some 33) rfl rfl (by kernel_rfl) (by kernel_rfl) (by kernel_rfl) (by kernel_rfl) (fun _ _ _ h=>h) (Or.inl ⟨by rfl,?_⟩) (by assumption) ?_
   rotate_left
   ·intro w hSw; (try dsimp only at hSw); go_simp; (try with_reducible rfl)
   try simp only [Act.put,List.setIfInBounds_toArray,List.set_cons_succ,List.set_cons_zero]
   refine takeU (i:=6) (v:=?_) (some 34) rfl rfl (by kernel_rfl) (by kernel_rfl) (by kernel_rfl) (fun _ _ _ h=>h) (Or.inl ⟨by rfl,?_⟩) ?_
   rotate_left
   ·intro w hSw; go_simp; (try with_reducible rfl)
   try simp only [Act.put,List.setIfInBounds_toArray,List.set_cons_succ,List.set_cons_zero]
   refine takeU (i:=9) (v:=?_) (some 37) rfl rfl (by kernel_rfl) (by kernel_rfl) (by kernel_rfl) (fun _ _ _ h=>h) (Or.inl ⟨by rfl,?_⟩) ?_
   rotate_left
   ·intro w hSw; go_simp; (try with_reducible rfl)
   try simp only [Act.put,List.setIfInBounds_toArray,List.set_cons_succ,List.set_cons_zero]
   refine takeU (i:=10) (v:=?_) (some 38) rfl rfl (by kernel_rfl) (by kernel_rfl) (by kernel_rfl) (fun _ _ _ h=>h) (Or.inl ⟨by rfl,?_⟩) ?_
   rotate_left
   ·intro w hSw; go_simp; (try with_reducible rfl)
   try simp only [Act.put,List.setIfInBounds_toArray,List.set_cons_succ,List.set_cons_zero]
   refine takeU (i:=11) (v:=?_) (some 39) rfl rfl (by kernel_rfl) (by kernel_rfl) (by kernel_rfl) (fun _ _ _ h=>h) (Or.inl ⟨by rfl,?_⟩) ?_
   rotate_left
   ·intro w hSw; go_simp; (try with_reducible rfl)
   try simp only [Act.put,List.setIfInBounds_toArray,List.set_cons_succ,List.set_cons_zero]
   refine takeZ (i:=12) (v:=?_) (some 40) rfl rfl (by kernel_rfl) (by kernel_rfl) (by kernel_rfl) (by kernel_rfl) (fun _ _ _ h=>h) (Or.inl ⟨by rfl,?_⟩) (by assumption) ?_
   rotate_left
   ·intro w hSw; (try dsimp only at hSw); go_simp; (try with_reducible rfl)
   try simp only [Act.put,List.setIfInBounds_toArray,List.set_cons_succ,List.set_cons_zero]
   refine anyZ_ready (rs:=[7,13]) (by kernel_rfl) (by simp) ?_
   refine readyZ_cons rfl (fun K hK=>?_) (readyZ_cons rfl (fun K hK=>?_) readyZ_nil)
   ·have o7:=litP wq (.pointer (some ⟨(N2.M i).g,0,none⟩)) 31
    have hb7:=below_new' wq (.cells #[.pointer (some ⟨(N2.M i).g,0,none⟩)] 31)
    have V7:=V.below hb7
    go_simp
    refine hK.out _ _ (fun _=>by have h3:=V7.bx.c 3 rfl; have h4:=V7.bx.c 4 rfl; rw [hg2.out] at h3 h4; exact ⟨h3,h4⟩) (fun hHeld0=>?_)
    replace hHeld:=hHeld0 (by decide)
    clear hK K hHeld0
    generalize World.alloc wq _ = wf at *
    refine anyZ_ready (rs:=[8,13]) (by kernel_rfl) (by simp) ?_
    refine readyZ_cons rfl (fun K hK=>?_) (readyZ_cons rfl (fun K hK=>?_) readyZ_nil)
    ·refine step_appH rfl pspT (.tmp 33) (.tmp 35) (by rfl) w1.heap.size (by rfl) V7.rp (by rfl) (m:=1) (by rfl) (own_slice o7) (ptr1 _) (by simp only [maxLen]; omega) (by omega) V7.bel.size (i + 1) _ rfl (ptrN_succ N2.M i) ?_
     intro v8 w8 ho8 hb8 hg8 hor8
     obtain ⟨A8,c8,rfl,-⟩:=own_rd ho8
     have V8:=V7.app1 hg8 hor8 ho8
     refine hK.out _ _ (fun _=>by have h3:=V8.bx.c 3 rfl; have h4:=V8.bx.c 4 rfl; rw [hg2.out] at h3 h4; exact ⟨h3,h4⟩) (fun hHeld0=>?_)
     replace hHeld:=hHeld0 (by decide)
     clear hK K hHeld0
     refine anyZ_ready (rs:=[13]) (by kernel_rfl) (by simp) ?_
     refine readyZ_cons rfl (fun K hK=>?_) readyZ_nil
     have o13:=litP w8 (.int .i64 1) 3
     have hb13:=below_new' w8 (.cells #[.int .i64 1] 3)
     have V13:=V8.below hb13
     go_simp
     refine hK.out _ _ (fun _=>by have h3:=V13.bx.c 3 rfl; have h4:=V13.bx.c 4 rfl; rw [hg2.out] at h3 h4; exact ⟨h3,h4⟩) (fun hHeld0=>?_)
     replace hHeld:=hHeld0 (by decide)
     clear hK K hHeld0
     generalize World.alloc w8 _ = we at *
     refine anyZ_ready (rs:=[14]) (by kernel_rfl) (by simp) ?_
     refine readyZ_cons rfl (fun K hK=>?_) readyZ_nil
     refine step_appH rfl inT (.tmp 40) (.tmp 41) (by rfl) w1.heap.size (by rfl) V13.rq (by rfl) (m:=1) (by rfl) (own_slice o13) (ins1 _) (by simp only [maxLen]; omega) (by omega) V13.bel.size (i + 1) _ rfl (one_succ i) ?_
     intro v9 w9 ho9 hb9 hg9 hor9
     obtain ⟨A9,c9,rfl,-⟩:=own_rd ho9
     have V9:=V13.app2 hg9 hor9 ho9
     refine hK.out _ _ (fun _=>by have h3:=V9.bx.c 3 rfl; have h4:=V9.bx.c 4 rfl; rw [hg2.out] at h3 h4; exact ⟨h3,h4⟩) (fun hHeld0=>?_)
     replace hHeld:=hHeld0 (by decide)
     clear hK K hHeld0
     refine takeU (i:=15) (v:=?_) (some 43) rfl rfl (by kernel_rfl) (by kernel_rfl) (by kernel_rfl) (fun _ _ _ h=>h) (Or.inl ⟨by rfl,?_⟩) ?_
     rotate_left
     ·intro w hSw; go_simp; (try with_reducible rfl)
     try simp only [Act.put,List.setIfInBounds_toArray,List.set_cons_succ,List.set_cons_zero]
     refine takeU (i:=16) (v:=?_) (some 44) rfl rfl (by kernel_rfl) (by kernel_rfl) (by kernel_rfl) (fun _ _ _ h=>h) (Or.inl ⟨by rfl,?_⟩) ?_
     rotate_left
     ·intro w hSw; go_simp; (try with_reducible rfl)
     try simp only [Act.put,List.setIfInBounds_toArray,List.set_cons_succ,List.set_cons_zero]
     have q0:=V9.bx.f 3 rfl
     have q1:=V9.bx.c 3 rfl
     rw [hg2.out] at q0 q1
     refine anyZ_ready (rs:=[17]) (by kernel_rfl) (by simp) ?_
     refine readyZ_cons rfl (fun K hK=>?_) readyZ_nil
     go_simp
     refine hK.out _ _ (fun h=>absurd h (by decide)) (fun _=>?_)
     clear hK K hHeld q0 q1
     have V10:=V9.st 3 (.slice A8 (i + 1) c8) (N':={ N2 with A1:=A8,c1:=c8 }) (n1':=i + 1) (n2':=i) (by omega) rfl ⟨rfl,rfl,rfl,rfl,rfl⟩
     rw [hg2.out] at V10
     have q0:=V10.bx.f 4 rfl
     have q1:=V10.bx.c 4 rfl
     dsimp only at q0 q1
     refine takeU (i:=18) (v:=?_) (some 45) rfl rfl (by kernel_rfl) (by kernel_rfl) (by kernel_rfl) (fun _ _ _ h=>h) (Or.inl ⟨by rfl,?_⟩) ?_
     rotate_left
     ·intro w hSw; go_simp; (try with_reducible rfl)
     try simp only [Act.put,List.setIfInBounds_toArray,List.set_cons_succ,List.set_cons_zero]
     refine takeU (i:=19) (v:=?_) (some 46) rfl rfl (by kernel_rfl) (by kernel_rfl) (by kernel_rfl) (fun _ _ _ h=>h) (Or.inl ⟨by rfl,?_⟩) ?_
     rotate_left
     ·intro w hSw; go_simp; (try with_reducible rfl)
     try simp only [Act.put,List.setIfInBounds_toArray,List.set_cons_succ,List.set_cons_zero]
     refine anyZ_ready (rs:=[20]) (by kernel_rfl) (by simp) ?_
     refine readyZ_cons rfl (fun K hK=>?_) readyZ_nil
     go_simp
     refine hK.out _ _ (fun h=>absurd h (by decide)) (fun _=>?_)
     clear hK K q0 q1
     have V11:=V10.st 4 (.slice A9 (i + 1) c9) (N':={ N2 with g:=w1.heap.size,A1:=A8,c1:=c8,A2:=A9,c2:=c9 }) (n1':=i + 1) (n2':=i + 1) (by omega) rfl ⟨rfl,rfl,rfl,rfl,rfl⟩
     dsimp only at V11
     refine anyZ_done (by kernel_rfl) ?_ _
     refine NoPanic.normal ?_
     replace V11:=Lib.hid V11
     clear V9 V10
     go_wp2_with fail
     go_round
     case rel=>exact ⟨i + 1,{ N2 with g:=w1.heap.size,A1:=A8,c1:=c8,A2:=A9,c2:=c9 },by go_num,by omega,rfl,V11⟩
     case measure=>simp [intOf]; omega
    ·have o13:=litP wf (.int .i64 1) 3
     have hb13:=below_new' wf (.cells #[.int .i64 1] 3)
     have V13:=V7.below hb13
     go_simp
     refine hK.out _ _ (fun _=>by have h3:=V13.bx.c 3 rfl; have h4:=V13.bx.c 4 rfl; rw [hg2.out] at h3 h4; exact ⟨h3,h4⟩) (fun hHeld0=>?_)
     replace hHeld:=hHeld0 (by decide)
     clear hK K hHeld0
     generalize World.alloc wf _ = we at *
     have o7b:=own_below o7 hb13
     refine anyZ_ready (rs:=[8]) (by kernel_rfl) (by simp) ?_
     refine readyZ_cons rfl (fun K hK=>?_) readyZ_nil
     refine step_appH rfl pspT (.tmp 33) (.tmp 35) (by rfl) w1.heap.size (by rfl) V13.rp (by rfl) (m:=1) (by rfl) (own_slice o7b) (ptr1 _) (by simp only [maxLen]; omega) (by omega) V13.bel.size (i + 1) _ rfl (ptrN_succ N2.M i) ?_
     intro v8 w8 ho8 hb8 hg8 hor8
     obtain ⟨A8,c8,rfl,-⟩:=own_rd ho8
     have V8:=V13.app1 hg8 hor8 ho8
     refine hK.out _ _ (fun _=>by have h3:=V8.bx.c 3 rfl; have h4:=V8.bx.c 4 rfl; rw [hg2.out] at h3 h4; exact ⟨h3,h4⟩) (fun hHeld0=>?_)
     replace hHeld:=hHeld0 (by decide)
     clear hK K hHeld0
     have o13d:=own_other o13 V13.rp (by decide) hg8
     refine anyZ_ready (rs:=[14]) (by kernel_rfl) (by simp) ?_
     refine readyZ_cons rfl (fun K hK=>?_) readyZ_nil
     refine step_appH rfl inT (.tmp 40) (.tmp 41) (by rfl) w1.heap.size (by rfl) V8.rq (by rfl) (m:=1) (by rfl) (own_slice o13d) (ins1 _) (by simp only [maxLen]; omega) (by omega) V8.bel.size (i + 1) _ rfl (one_succ i) ?_
     intro v9 w9 ho9 hb9 hg9 hor9
     obtain ⟨A9,c9,rfl,-⟩:=own_rd ho9
     have V9:=V8.app2 hg9 hor9 ho9
     refine hK.out _ _ (fun _=>by have h3:=V9.bx.c 3 rfl; have h4:=V9.bx.c 4 rfl; rw [hg2.out] at h3 h4; exact ⟨h3,h4⟩) (fun hHeld0=>?_)
     replace hHeld:=hHeld0 (by decide)
     clear hK K hHeld0
     refine takeU (i:=15) (v:=?_) (some 43) rfl rfl (by kernel_rfl) (by kernel_rfl) (by kernel_rfl) (fun _ _ _ h=>h) (Or.inl ⟨by rfl,?_⟩) ?_
     rotate_left
     ·intro w hSw; go_simp; (try with_reducible rfl)
     try simp only [Act.put,List.setIfInBounds_toArray,List.set_cons_succ,List.set_cons_zero]
     refine takeU (i:=16) (v:=?_) (some 44) rfl rfl (by kernel_rfl) (by kernel_rfl) (by kernel_rfl) (fun _ _ _ h=>h) (Or.inl ⟨by rfl,?_⟩) ?_
     rotate_left
     ·intro w hSw; go_simp; (try with_reducible rfl)
     try simp only [Act.put,List.setIfInBounds_toArray,List.set_cons_succ,List.set_cons_zero]
     have q0:=V9.bx.f 3 rfl
     have q1:=V9.bx.c 3 rfl
     rw [hg2.out] at q0 q1
     refine anyZ_ready (rs:=[17]) (by kernel_rfl) (by simp) ?_
     refine readyZ_cons rfl (fun K hK=>?_) readyZ_nil
     go_simp
     refine hK.out _ _ (fun h=>absurd h (by decide)) (fun _=>?_)
     clear hK K hHeld q0 q1
     have V10:=V9.st 3 (.slice A8 (i + 1) c8) (N':={ N2 with A1:=A8,c1:=c8 }) (n1':=i + 1) (n2':=i) (by omega) rfl ⟨rfl,rfl,rfl,rfl,rfl⟩
     rw [hg2.out] at V10
     have q0:=V10.bx.f 4 rfl
     have q1:=V10.bx.c 4 rfl
     dsimp only at q0 q1
     refine takeU (i:=18) (v:=?_) (some 45) rfl rfl (by kernel_rfl) (by kernel_rfl) (by kernel_rfl) (fun _ _ _ h=>h) (Or.inl ⟨by rfl,?_⟩) ?_
     rotate_left
     ·intro w hSw; go_simp; (try with_reducible rfl)
     try simp only [Act.put,List.setIfInBounds_toArray,List.set_cons_succ,List.set_cons_zero]
     refine takeU (i:=19) (v:=?_) (some 46) rfl rfl (by kernel_rfl) (by kernel_rfl) (by kernel_rfl) (fun _ _ _ h=>h) (Or.inl ⟨by rfl,?_⟩) ?_
     rotate_left
     ·intro w hSw; go_simp; (try with_reducible rfl)
     try simp only [Act.put,List.setIfInBounds_toArray,List.set_cons_succ,List.set_cons_zero]
     refine anyZ_ready (rs:=[20]) (by kernel_rfl) (by simp) ?_
     refine readyZ_cons rfl (fun K hK=>?_) readyZ_nil
     go_simp
     refine hK.out _ _ (fun h=>absurd h (by decide)) (fun _=>?_)
     clear hK K q0 q1
     have V11:=V10.st 4 (.slice A9 (i + 1) c9) (N':={ N2 with g:=w1.heap.size,A1:=A8,c1:=c8,A2:=A9,c2:=c9 }) (n1':=i + 1) (n2':=i + 1) (by omega) rfl ⟨rfl,rfl,rfl,rfl,rfl⟩
     dsimp only at V11
     refine anyZ_done (by kernel_rfl) ?_ _
     refine NoPanic.normal ?_
     replace V11:=Lib.hid V11
     clear V9 V10
     go_wp2_with fail
     go_round
     case rel=>exact ⟨i + 1,{ N2 with g:=w1.heap.size,A1:=A8,c1:=c8,A2:=A9,c2:=c9 },by go_num,by omega,rfl,V11⟩
     case measure=>simp [intOf]; omega
   ·have o13:=litP wq (.int .i64 1) 3
    have hb13:=below_new' wq (.cells #[.int .i64 1] 3)
    have V13:=V.below hb13
    go_simp
    refine hK.out _ _ (fun _=>by have h3:=V13.bx.c 3 rfl; have h4:=V13.bx.c 4 rfl; rw [hg2.out] at h3 h4; exact ⟨h3,h4⟩) (fun hHeld0=>?_)
    replace hHeld:=hHeld0 (by decide)
    clear hK K hHeld0
    generalize World.alloc wq _ = we at *
    refine anyZ_ready (rs:=[7]) (by kernel_rfl) (by simp) ?_
    refine readyZ_cons rfl (fun K hK=>?_) readyZ_nil
    have o7:=litP we (.pointer (some ⟨(N2.M i).g,0,none⟩)) 31
    have hb7:=below_new' we (.cells #[.pointer (some ⟨(N2.M i).g,0,none⟩)] 31)
    have V7:=V13.below hb7
    go_simp
    refine hK.out _ _ (fun _=>by have h3:=V7.bx.c 3 rfl; have h4:=V7.bx.c 4 rfl; rw [hg2.out] at h3 h4; exact ⟨h3,h4⟩) (fun hHeld0=>?_)
    replace hHeld:=hHeld0 (by decide)
    clear hK K hHeld0
    generalize World.alloc we _ = wf at *
    have o13c:=own_below o13 hb7
    refine anyZ_ready (rs:=[8]) (by kernel_rfl) (by simp) ?_
    refine readyZ_cons rfl (fun K hK=>?_) readyZ_nil
    refine step_appH rfl pspT (.tmp 33) (.tmp 35) (by rfl) w1.heap.size (by rfl) V7.rp (by rfl) (m:=1) (by rfl) (own_slice o7) (ptr1 _) (by simp only [maxLen]; omega) (by omega) V7.bel.size (i + 1) _ rfl (ptrN_succ N2.M i) ?_
    intro v8 w8 ho8 hb8 hg8 hor8
    obtain ⟨A8,c8,rfl,-⟩:=own_rd ho8
    have V8:=V7.app1 hg8 hor8 ho8
    refine hK.out _ _ (fun _=>by have h3:=V8.bx.c 3 rfl; have h4:=V8.bx.c 4 rfl; rw [hg2.out] at h3 h4; exact ⟨h3,h4⟩) (fun hHeld0=>?_)
    replace hHeld:=hHeld0 (by decide)
    clear hK K hHeld0
    have o13d:=own_other o13c V7.rp (by decide) hg8
    refine anyZ_ready (rs:=[14]) (by kernel_rfl) (by simp) ?_
    refine readyZ_cons rfl (fun K hK=>?_) readyZ_nil
    refine step_appH rfl inT (.tmp 40) (.tmp 41) (by rfl) w1.heap.size (by rfl) V8.rq (by rfl) (m:=1) (by rfl) (own_slice o13d) (ins1 _) (by simp only [maxLen]; omega) (by omega) V8.bel.size (i + 1) _ rfl (one_succ i) ?_
    intro v9 w9 ho9 hb9 hg9 hor9
    obtain ⟨A9,c9,rfl,-⟩:=own_rd ho9
    have V9:=V8.app2 hg9 hor9 ho9
    refine hK.out _ _ (fun _=>by have h3:=V9.bx.c 3 rfl; have h4:=V9.bx.c 4 rfl; rw [hg2.out] at h3 h4; exact ⟨h3,h4⟩) (fun hHeld0=>?_)
    replace hHeld:=hHeld0 (by decide)
    clear hK K hHeld0
    refine takeU (i:=15) (v:=?_) (some 43) rfl rfl (by kernel_rfl) (by kernel_rfl) (by kernel_rfl) (fun _ _ _ h=>h) (Or.inl ⟨by rfl,?_⟩) ?_
    rotate_left
    ·intro w hSw; go_simp; (try with_reducible rfl)
    try simp only [Act.put,List.setIfInBounds_toArray,List.set_cons_succ,List.set_cons_zero]
    refine takeU (i:=16) (v:=?_) (some 44) rfl rfl (by kernel_rfl) (by kernel_rfl) (by kernel_rfl) (fun _ _ _ h=>h) (Or.inl ⟨by rfl,?_⟩) ?_
    rotate_left
    ·intro w hSw; go_simp; (try with_reducible rfl)
    try simp only [Act.put,List.setIfInBounds_toArray,List.set_cons_succ,List.set_cons_zero]
    have q0:=V9.bx.f 3 rfl
    have q1:=V9.bx.c 3 rfl
    rw [hg2.out] at q0 q1
    refine anyZ_ready (rs:=[17]) (by kernel_rfl) (by simp) ?_
    refine readyZ_cons rfl (fun K hK=>?_) readyZ_nil
    go_simp
    refine hK.out _ _ (fun h=>absurd h (by decide)) (fun _=>?_)
    clear hK K hHeld q0 q1
    have V10:=V9.st 3 (.slice A8 (i + 1) c8) (N':={ N2 with A1:=A8,c1:=c8 }) (n1':=i + 1) (n2':=i) (by omega) rfl ⟨rfl,rfl,rfl,rfl,rfl⟩
    rw [hg2.out] at V10
    have q0:=V10.bx.f 4 rfl
    have q1:=V10.bx.c 4 rfl
    dsimp only at q0 q1
    refine takeU (i:=18) (v:=?_) (some 45) rfl rfl (by kernel_rfl) (by kernel_rfl) (by kernel_rfl) (fun _ _ _ h=>h) (Or.inl ⟨by rfl,?_⟩) ?_
    rotate_left
    ·intro w hSw; go_simp; (try with_reducible rfl)
    try simp only [Act.put,List.setIfInBounds_toArray,List.set_cons_succ,List.set_cons_zero]
    refine takeU (i:=19) (v:=?_) (some 46) rfl rfl (by kernel_rfl) (by kernel_rfl) (by kernel_rfl) (fun _ _ _ h=>h) (Or.inl ⟨by rfl,?_⟩) ?_
    rotate_left
    ·intro w hSw; go_simp; (try with_reducible rfl)
    try simp only [Act.put,List.setIfInBounds_toArray,List.set_cons_succ,List.set_cons_zero]
    refine anyZ_ready (rs:=[20]) (by kernel_rfl) (by simp) ?_
    refine readyZ_cons rfl (fun K hK=>?_) readyZ_nil
    go_simp
    refine hK.out _ _ (fun h=>absurd h (by decide)) (fun _=>?_)
    clear hK K q0 q1
    have V11:=V10.st 4 (.slice A9 (i + 1) c9) (N':={ N2 with g:=w1.heap.size,A1:=A8,c1:=c8,A2:=A9,c2:=c9 }) (n1':=i + 1) (n2':=i + 1) (by omega) rfl ⟨rfl,rfl,rfl,rfl,rfl⟩
    dsimp only at V11
    refine anyZ_done (by kernel_rfl) ?_ _
    refine NoPanic.normal ?_
    replace V11:=Lib.hid V11
    clear V9 V10
    go_wp2_with fail
    go_round
    case rel=>exact ⟨i + 1,{ N2 with g:=w1.heap.size,A1:=A8,c1:=c8,A2:=A9,c2:=c9 },by go_num,by omega,rfl,V11⟩
    case measure=>simp [intOf]; omega
  ·obtain rfl:n = i:=by omega
   have elt:decide ((n:Int) < t.n) = false:=by have:=hn.out; simp; omega
   have hfin:NbP w n t h1 h2 h3 (.returned (.tuple #[.pointer (some ⟨N.g,0,none⟩),.bool true])) wr:=⟨N,w1,rfl,B1.out.done,hbw.out⟩
   rw [hg] at hfin
   replace hfin:=Lib.hid hfin
   clear B1 SS T1
   go_wp2_with fail
   go_ret2
   exact hfin.out
end Go.Proofs.YtehimhbgakpenaaGreat
