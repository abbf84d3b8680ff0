/-
  The texts EqL, RdVs, Nv1, Nv2, one after the other.
-/
import Derived.Test.YtehimhbgakpenaaGreatQPWith7
import Derived.ChangeKeysEq
import Derived.Laws.StructEq
import Derived.Test.YtehimhbgakpenaaGreatQPWith23
namespace Go.Proofs.YtehimhbgakpenaaGreat
set_option linter.unusedVariables false
open Go.RowKit
theorem lk_fields:Tryz.prog.underlying 79 = some (.struct (Tryz.prog.fieldsOf 79)):=by kernel_rfl
theorem lk_held:Tryz.prog.stoodInHeld 79 = false:=by kernel_rfl
theorem lk_guard:Tryz.prog.eqGuardType Tryz.prog.depth 79 = false:=by kernel_rfl
abbrev lkA (x:Lk):Value:=.agg #[.int .i64 x.a,.int .i64 x.b,.int .i64 x.c,.int .i64 x.d,.int .i64 x.cap,.int .i64 x.del,.int .i64 x.grp]
theorem lk_fl:((Tryz.prog.fieldsOf 79).toList.map fun f=>(f.name != "_",f.type,f.offset)) = [(true,3,0),(true,3,1),(true,77,2),(true,3,4),(true,3,5),(true,3,6)]:=by kernel_rfl
theorem int_info:∃ i,Tryz.prog.info? 3 = some i:=by
 cases h:Tryz.prog.info? 3 with
 | some i=>exact ⟨i,rfl⟩
 | none =>
   have e:(Tryz.prog.info? 3).isSome = true:=by kernel_rfl
   rw [h] at e; cases e
theorem eq_two (w:World) (d:Nat) (a b:Int):(Op.equalIn (d + 1 + 1) 77 (.agg #[.int .i64 a,.int .i64 b]) (.agg #[.int .i64 a,.int .i64 b])).run Tryz.prog w = .ok true w:=by
 obtain ⟨i,hi⟩:=int_info
 rw [run_equalIn_array (P:=Tryz.prog) w (d + 1) _ _ Tryz.underlying77 hi]
 rw [show Tryz.prog.cellsOf 3 = 1 from by kernel_rfl,show List.range 2 = [0,1] from rfl]
 have E:=fun (W:World) (a b:Int)=>run_equalIn_int (P:=Tryz.prog) W d 3 .i64 .i64 a b Tryz.underlying3
 simp [Op.eqItems,part,sizeOf,E]
theorem eq_lk (w:World) (x:Lk):(Op.equalIn 10000 79 (lkA x) (lkA x)).run Tryz.prog w = .ok true w:=by
 rw [show (10000:Nat) = 9999 + 1 from rfl,run_equalIn_agg w 9999 _ _ _ lk_fields lk_held]
 have h:=lk_fl
 generalize (Tryz.prog.fieldsOf 79).toList = l at h
 rcases l with _ | ⟨f0,_ | ⟨f1,_ | ⟨f2,_ | ⟨f3,_ | ⟨f4,_ | ⟨f5,_ | ⟨f6,l⟩⟩⟩⟩⟩⟩⟩
 all_goals simp at h
 obtain ⟨⟨n0,t0,o0⟩,⟨n1,t1,o1⟩,⟨n2,t2,o2⟩,⟨n3,t3,o3⟩,⟨n4,t4,o4⟩,n5,t5,o5⟩:=h
 have E:=fun (W:World) (a b:Int)=>run_equalIn_int (P:=Tryz.prog) W 9998 3 .i64 .i64 a b Tryz.underlying3
 have F:=fun (W:World) (a b:Int)=>eq_two W 9997 a b
 simp only [show (9998 + 1:Nat) = 9999 from rfl] at E
 simp only [show (9997 + 1 + 1:Nat) = 9999 from rfl] at F
 have hs:Tryz.t77.size = 2:=by kernel_rfl
 simp [Op.eqFields,n0,n1,n2,n3,n4,n5,t0,t1,t2,t3,t4,t5,o0,o1,o2,o3,o4,o5,part,sizeOf,E,F,hs]
theorem neq_lk (w:World) (x:Lk):(binOp .neq 79 (lkA x) (lkA x)).run Tryz.prog w = .ok (.bool false) w:=by rw [run_neq_struct,eq_lk]; rfl
end Go.Proofs.YtehimhbgakpenaaGreat

namespace Go.Proofs.YtehimhbgakpenaaGreat
set_option linter.unusedVariables false
open Go.RowKit Go.Maps Go.Sort
def busB (l:List Bool):Bool:=l.any id
set_option maxRecDepth 100000 in
set_option maxHeartbeats 3200000 in
theorem busy_any (w:World) (v:Value) (t:Tp) (h:TpAt w v t):Calls Tryz.prog 107 #[v] w fun e w'=>e = .returned (.bool (busB t.ov)) ∧ Below w.heap.size w w':=by
 obtain ⟨A,c,B,d,rfl,rA,rB,h1,h2⟩:=h
 have S:=((St.start w).read rA).new' #[.int .i64 t.n,.slice A t.ov.length c,.slice B t.ln.length d] 25 w.heap.size _ rfl rfl
 clear rA rB
 unfold maxLen at h1
 generalize t.ln.length = m at *
 generalize t.n = n at *
 obtain ⟨l,hl⟩:∃ l,t.ov = l:=⟨_,rfl⟩
 rw [hl] at S h1 ⊢
 clear hl
 obtain ⟨k,hk⟩:∃ k,l.length = k:=⟨_,rfl⟩
 rw [hk] at S h1 ⊢
 replace hk:=Lib.hid hk
 obtain ⟨r,hr⟩:∃ r,busB l = r:=⟨_,rfl⟩
 rw [hr]
 have hr0:Hid (busB (l.drop 0) = r):=hr
 clear hr
 go_enter Tryz.func107,Tryz.ntmps107
 go_wp2_with fail
 generalize World.alloc w _ = w1 at *
 go_loopw [3] (fun v3 wr=>∃ i:Nat,v3 = .int .i64 i ∧ i ≤ k ∧ Hid (busB (l.drop i) = r) ∧ St w wr [(w.heap.size,[.int .i64 n,.slice A k c,.slice B m d])] [(A,boV l)]) (fun v3 _=>k - (intOf v3).toNat)
 case atStart=>exact ⟨0,rfl,by omega,hr0,S⟩
 case round =>
  clear S hr0
  obtain ⟨i,rfl,hi,hr,S⟩:=hrel
  have r0:=S.c 0 0 rfl rfl
  have r1:=S.c 0 1 rfl rfl
  have r2:=S.c 0 2 rfl rfl
  by_cases hik:i < k
  ·have hil:i < l.length:=by have:=hk.out; omega
   obtain ⟨b,off,rfl,hc⟩:=rd_bo (S.r 0 rfl) (by omega)
   have x0:=hc i hil
   have hd:=hr.out
   rw [List.drop_eq_getElem_cons hil] at hd
   simp only [busB,List.any_cons,id] at hd
   generalize l[i] = x at *
   clear hc hr
   cases x with
   | true =>
     simp only [Bool.true_or] at hd
     subst hd
     go_wp2_with fail
     go_ret
     exact ⟨rfl,S.b⟩
   | false =>
     simp only [Bool.false_or] at hd
     have hd2:Hid (busB (l.drop (i + 1)) = r):=hd
     clear hd
     go_wp2_with fail
     go_round
     case rel=>exact ⟨i + 1,by go_num,by omega,hd2,S⟩
     case measure=>simp [intOf]; omega
  ·obtain rfl:i = k:=by omega
   have e:=hr.out
   rw [List.drop_of_length_le (by have:=hk.out; omega)] at e
   subst e
   go_wp2_with fail
   go_ret
   exact ⟨rfl,S.b⟩
set_option maxRecDepth 100000 in
set_option maxHeartbeats 6400000 in
theorem rtsame_any (w:World) (v u:Value) (t:Tp) (h:TpAt w v t) (h':TpAt w u t):Calls Tryz.prog 60 #[v,u] w fun e w'=>e = .returned (.bool true) ∧ Below w.heap.size w w':=by
 obtain ⟨A,c,B,d,rfl,rA,rB,h1,h2⟩:=id h
 obtain ⟨A',c',B',d',rfl,rA',rB',_,_⟩:=id h'
 have S:=((((((St.start w).read rB').read rA').read rB).read rA).new' #[.int .i64 t.n,.slice A t.ov.length c,.slice B t.ln.length d] 25 w.heap.size _ rfl rfl).new' #[.int .i64 t.n,.slice A' t.ov.length c',.slice B' t.ln.length d'] 25 (w.heap.size + 1) _ (by simp) rfl
 have B1:=fun W hb=>busy_any W _ t (h.below hb)
 have B2:=fun W hb=>busy_any W _ t (h'.below hb)
 clear rA rB rA' rB' h h'
 unfold maxLen at h1 h2
 obtain ⟨bb,hbb⟩:∃ z,busB t.ov = z:=⟨_,rfl⟩
 rw [hbb] at B1 B2
 clear hbb
 replace B1:=Lib.hid B1
 replace B2:=Lib.hid B2
 generalize t.n = n at *
 obtain ⟨lo,hlo⟩:∃ l,t.ov = l:=⟨_,rfl⟩
 obtain ⟨ll,hll⟩:∃ l,t.ln = l:=⟨_,rfl⟩
 rw [hlo] at S h1 B1 B2 ⊢
 rw [hll] at S h2 B1 B2 ⊢
 clear hlo hll
 obtain ⟨k,hk⟩:∃ k,lo.length = k:=⟨_,rfl⟩
 obtain ⟨m,hm⟩:∃ k,ll.length = k:=⟨_,rfl⟩
 rw [hk] at S h1 B1 B2 ⊢
 rw [hm] at S h2 B1 B2 ⊢
 replace hk:=Lib.hid hk
 replace hm:=Lib.hid hm
 have e1:(n != n) = false:=by simp
 have e2:((m:Int) != (m:Int)) = false:=by simp
 have e3:(bb != bb) = false:=by simp
 have e4:((k:Int) != (k:Int)) = false:=by simp
 go_enter Tryz.func60,Tryz.ntmps60
 go_upto_region 1 with fail
 generalize World.alloc _ _ = w1 at *
 have BA:=fun W (hb:Below w1.heap.size w1 W)=>B1.out W (S.b.trans (hb.mono S.b.size))
 have BB:=fun W (hb:Below w1.heap.size w1 W)=>B2.out W (S.b.trans (hb.mono S.b.size))
 replace BA:=Lib.hid BA
 replace BB:=Lib.hid BB
 have a0:=cell_regrown (S.c 0 0 rfl rfl)
 have a1:=cell_regrown (S.c 0 1 rfl rfl)
 have a2:=cell_regrown (S.c 0 2 rfl rfl)
 have b0:=cell_regrown (S.c 1 0 rfl rfl)
 have b1:=cell_regrown (S.c 1 1 rfl rfl)
 have b2:=cell_regrown (S.c 1 2 rfl rfl)
 refine wp_region_quiet_below (by kernel_rfl) (by kernel_rfl) ?_
 repeat (go_big_quiet_step ((first | (go_at_call 107; with_reducible exact Calls.regrown_of (BA.out _ (below_regrown _ _ _))) | (go_at_call 107; with_reducible exact Calls.regrown_of (BB.out _ (below_regrown _ _ _))))))
 refine wpQuiet_nil ?_
 intro _ hw'
 obtain ⟨⟨dq,osq⟩,hw''⟩:=hw'
 subst hw''
 replace S:=S.call (below_regrown _ dq osq)
 generalize grow (redrawn _ dq) osq = w2 at *
 clear a0 a1 a2
 clear b0 b1 b2
 clear BA BB B2
 go_wp2_with fail
 go_loopw [5] (fun v5 wr=>∃ i:Nat,v5 = .int .i64 i ∧ i ≤ m ∧ St w wr [(w.heap.size + 1,[.int .i64 n,.slice A' k c',.slice B' m d']),(w.heap.size,[.int .i64 n,.slice A k c,.slice B m d])] [(A,boV lo),(B,lksV ll),(A',boV lo),(B',lksV ll)]) (fun v5 _=>m - (intOf v5).toNat)
 case atStart=>exact ⟨0,rfl,by omega,S⟩
 case round =>
  clear S
  obtain ⟨i,rfl,hi,S⟩:=hrel
  have a0:=S.c 0 0 rfl rfl
  have a1:=S.c 0 1 rfl rfl
  have a2:=S.c 0 2 rfl rfl
  have b0:=S.c 1 0 rfl rfl
  have b1:=S.c 1 1 rfl rfl
  have b2:=S.c 1 2 rfl rfl
  by_cases him:i < m
  ·have hil:i < ll.length:=by have:=hm.out; omega
   obtain ⟨p,off,rfl,hc⟩:=rd_lk (S.r 1 rfl) (by omega)
   obtain ⟨p',off',rfl,hc'⟩:=rd_lk (S.r 3 rfl) (by omega)
   obtain ⟨x0,x1,x2,x3,x3',x4,x5,x6⟩:=hc i hil
   obtain ⟨y0,y1,y2,y3,y3',y4,y5,y6⟩:=hc' i hil
   generalize ll[i] = x at *
   have NE:=fun W=>neq_lk W x
   have hG:=lk_guard
   unfold lkA at NE
   obtain ⟨xa,xb,xc,xd,xe,xf,xg⟩:=x
   simp only at x0 x1 x2 x3 x3' x4 x5 x6 y0 y1 y2 y3 y3' y4 y5 y6 NE
   clear hc hc' B1
   go_wp2_with fail
   go_quiet (fail)
   go_wp2_with fail
   go_round
   case rel=>exact ⟨i + 1,by go_num,by omega,S.drewN nq⟩
   case measure=>simp [intOf]; omega
  ·obtain rfl:i = m:=by omega
   have BA:=B1.out wr S.b
   replace BA:=Lib.hid BA
   clear B1
   go_wp2_with fail
   (with_reducible refine (BA.out).mono ?_)
   rintro e w3 ⟨rfl,hb⟩
   clear a0 a1 a2
   clear b0 b1 b2
   replace S:=S.call hb
   clear BA hb
   have a0:=S.c 0 0 rfl rfl
   have a1:=S.c 0 1 rfl rfl
   have a2:=S.c 0 2 rfl rfl
   have b0:=S.c 1 0 rfl rfl
   have b1:=S.c 1 1 rfl rfl
   have b2:=S.c 1 2 rfl rfl
   cases bb with
   | false =>
     go_wp2_with fail
     go_ret
     exact ⟨rfl,S.b⟩
   | true =>
     go_wp2_with fail
     clear a0 a1 a2
     clear b0 b1 b2
     go_loopw [6] (fun v6 wr=>∃ j:Nat,v6 = .int .i64 j ∧ j ≤ k ∧ St w wr [(w.heap.size + 1,[.int .i64 n,.slice A' k c',.slice B' i d']),(w.heap.size,[.int .i64 n,.slice A k c,.slice B i d])] [(A,boV lo),(B,lksV ll),(A',boV lo),(B',lksV ll)]) (fun v6 _=>k - (intOf v6).toNat)
     case atStart=>exact ⟨0,rfl,by omega,S⟩
     case round =>
      clear S
      obtain ⟨j,rfl,hj,S⟩:=hrel
      have a0:=S.c 0 0 rfl rfl
      have a1:=S.c 0 1 rfl rfl
      have a2:=S.c 0 2 rfl rfl
      have b0:=S.c 1 0 rfl rfl
      have b1:=S.c 1 1 rfl rfl
      have b2:=S.c 1 2 rfl rfl
      by_cases hjk:j < k
      ·have hjl:j < lo.length:=by have:=hk.out; omega
       obtain ⟨p,off,rfl,hc⟩:=rd_bo (S.r 0 rfl) (by omega)
       obtain ⟨p',off',rfl,hc'⟩:=rd_bo (S.r 2 rfl) (by omega)
       have x0:=hc j hjl
       have y0:=hc' j hjl
       generalize lo[j] = x at *
       have e5:(x != x) = false:=by simp
       clear hc hc'
       go_wp2_with fail
       go_quiet (fail)
       go_wp2_with fail
       go_round
       case rel=>exact ⟨j + 1,by go_num,by omega,S.drewN nq⟩
       case measure=>simp [intOf]; omega
      ·obtain rfl:j = k:=by omega
       go_wp2_with fail
       go_ret
       exact ⟨rfl,S.b⟩
set_option maxRecDepth 100000 in
set_option maxHeartbeats 6400000 in
theorem rsameview_any (w:World) (v u:Value) (t:Tp) (D E:Option Addr) (k c d:Nat) (l:List Bool) (h:TpAt w v t) (h':TpAt w u t) (hD:Rd w D (boV l)) (hE:Rd w E (boV l)) (hk:l.length = k) (hk9:k ≤ 1000000) :
  Calls Tryz.prog 16 #[v,u,.slice D k c,.slice E k d] w fun e w'=>e = .returned (.bool true) ∧ Below w.heap.size w w':=by
 obtain ⟨A,ca,B,da,rfl,_⟩:=id h
 obtain ⟨A',ca',B',da',rfl,_⟩:=id h'
 have S:=((((St.start w).read hE).read hD).new' #[.int .i64 t.n,.slice A t.ov.length ca,.slice B t.ln.length da] 25 w.heap.size _ rfl rfl).new' #[.int .i64 t.n,.slice A' t.ov.length ca',.slice B' t.ln.length da'] 25 (w.heap.size + 1) _ (by simp) rfl
 have SM:=rtsame_any _ _ _ t (h.below S.b) (h'.below S.b)
 replace SM:=Lib.hid SM
 clear hE hD h h'
 replace hk:=Lib.hid hk
 have e4:((k:Int) != (k:Int)) = false:=by simp
 generalize t.n = n at *
 generalize t.ov.length = ko at *
 generalize t.ln.length = m at *
 have a0:=S.c 0 0 rfl rfl
 have a1:=S.c 0 1 rfl rfl
 have a2:=S.c 0 2 rfl rfl
 have b0:=S.c 1 0 rfl rfl
 have b1:=S.c 1 1 rfl rfl
 have b2:=S.c 1 2 rfl rfl
 go_enter Tryz.func16,Tryz.ntmps16
 go_wp2_with fail
 (with_reducible refine (SM.out).mono ?_)
 rintro e w1 ⟨rfl,hb⟩
 clear a0 a1 a2
 clear b0 b1 b2
 replace S:=S.call hb
 clear SM hb
 go_wp2_with fail
 replace S:=S.keepBoxes [] (by simp)
 go_loopw [9] (fun v9 wr=>∃ j:Nat,v9 = .int .i64 j ∧ j ≤ k ∧ St w wr [] [(D,boV l),(E,boV l)]) (fun v9 _=>k - (intOf v9).toNat)
 case atStart=>exact ⟨0,rfl,by omega,S⟩
 case round =>
  clear S
  obtain ⟨j,rfl,hj,S⟩:=hrel
  by_cases hjk:j < k
  ·have hjl:j < l.length:=by have:=hk.out; omega
   obtain ⟨p,off,rfl,hc⟩:=rd_bo (S.r 0 rfl) (by omega)
   obtain ⟨p',off',rfl,hc'⟩:=rd_bo (S.r 1 rfl) (by omega)
   have x0:=hc j hjl
   have y0:=hc' j hjl
   generalize l[j] = x at *
   have e5:(x != x) = false:=by simp
   clear hc hc'
   go_wp2_with fail
   go_quiet (fail)
   go_wp2_with fail
   go_round
   case rel=>exact ⟨j + 1,by go_num,by omega,S.drewN nq⟩
   case measure=>simp [intOf]; omega
  ·obtain rfl:j = k:=by omega
   go_wp2_with fail
   go_ret
   exact ⟨rfl,S.b⟩
end Go.Proofs.YtehimhbgakpenaaGreat

namespace Go.Proofs.YtehimhbgakpenaaGreat
set_option linter.unusedVariables false
open Go.RowKit Go.Maps Go.Sort
set_option maxRecDepth 100000 in
set_option maxHeartbeats 6400000 in
theorem rtsame8_any (w:World) (v u:Value) (t:Tp) (lp:List Bool) (h:TpAt w v t) (h':TpAt w u ⟨t.n,lp,t.ln⟩) (hb1:busB t.ov = false) (hb2:busB lp = false):Calls Tryz.prog 60 #[v,u] w fun e w'=>e = .returned (.bool true) ∧ Below w.heap.size w w':=by
 obtain ⟨A,c,B,d,rfl,rA,rB,h1,h2⟩:=id h
 obtain ⟨A',c',B',d',rfl,rA',rB',_,_⟩:=id h'
 have S:=((((((St.start w).read rB').read rA').read rB).read rA).new' #[.int .i64 t.n,.slice A t.ov.length c,.slice B t.ln.length d] 25 w.heap.size _ rfl rfl).new' #[.int .i64 t.n,.slice A' lp.length c',.slice B' t.ln.length d'] 25 (w.heap.size + 1) _ (by simp) rfl
 have B1:=fun W hb=>busy_any W _ t (h.below hb)
 have B2:=fun W hb=>busy_any W _ ⟨t.n,lp,t.ln⟩ (h'.below hb)
 clear rA rB rA' rB' h h'
 unfold maxLen at h1 h2
 simp only [hb1] at B1
 simp only [hb2] at B2
 clear hb1 hb2
 replace B1:=Lib.hid B1
 replace B2:=Lib.hid B2
 generalize t.n = n at *
 obtain ⟨lo,hlo⟩:∃ l,t.ov = l:=⟨_,rfl⟩
 obtain ⟨ll,hll⟩:∃ l,t.ln = l:=⟨_,rfl⟩
 dsimp only at S B1 B2 ⊢
 rw [hlo] at S h1 B1 ⊢
 rw [hll] at S h2 B1 B2 ⊢
 clear hlo hll
 generalize lp.length = kp at *
 obtain ⟨k,hk⟩:∃ k,lo.length = k:=⟨_,rfl⟩
 obtain ⟨m,hm⟩:∃ k,ll.length = k:=⟨_,rfl⟩
 rw [hk] at S h1 B1 ⊢
 rw [hm] at S h2 B1 B2 ⊢
 replace hk:=Lib.hid hk
 replace hm:=Lib.hid hm
 have e1:(n != n) = false:=by simp
 have e2:((m:Int) != (m:Int)) = false:=by simp
 have e4:((k:Int) != (k:Int)) = false:=by simp
 go_enter Tryz.func60,Tryz.ntmps60
 go_upto_region 1 with fail
 generalize World.alloc _ _ = w1 at *
 have BA:=fun W (hb:Below w1.heap.size w1 W)=>B1.out W (S.b.trans (hb.mono S.b.size))
 have BB:=fun W (hb:Below w1.heap.size w1 W)=>B2.out W (S.b.trans (hb.mono S.b.size))
 replace BA:=Lib.hid BA
 replace BB:=Lib.hid BB
 have a0:=cell_regrown (S.c 0 0 rfl rfl)
 have a1:=cell_regrown (S.c 0 1 rfl rfl)
 have a2:=cell_regrown (S.c 0 2 rfl rfl)
 have b0:=cell_regrown (S.c 1 0 rfl rfl)
 have b1:=cell_regrown (S.c 1 1 rfl rfl)
 have b2:=cell_regrown (S.c 1 2 rfl rfl)
 refine wp_region_quiet_below (by kernel_rfl) (by kernel_rfl) ?_
 repeat (go_big_quiet_step ((first | (go_at_call 107; with_reducible exact Calls.regrown_of (BA.out _ (below_regrown _ _ _))) | (go_at_call 107; with_reducible exact Calls.regrown_of (BB.out _ (below_regrown _ _ _))))))
 refine wpQuiet_nil ?_
 intro _ hw'
 obtain ⟨⟨dq,osq⟩,hw''⟩:=hw'
 subst hw''
 replace S:=S.call (below_regrown _ dq osq)
 generalize grow (redrawn _ dq) osq = w2 at *
 clear a0 a1 a2
 clear b0 b1 b2
 clear BA BB B2
 go_wp2_with fail
 go_loopw [5] (fun v5 wr=>∃ i:Nat,v5 = .int .i64 i ∧ i ≤ m ∧ St w wr [(w.heap.size + 1,[.int .i64 n,.slice A' kp c',.slice B' m d']),(w.heap.size,[.int .i64 n,.slice A k c,.slice B m d])] [(A,boV lo),(B,lksV ll),(A',boV lp),(B',lksV ll)]) (fun v5 _=>m - (intOf v5).toNat)
 case atStart=>exact ⟨0,rfl,by omega,S⟩
 case round =>
  clear S
  obtain ⟨i,rfl,hi,S⟩:=hrel
  have a0:=S.c 0 0 rfl rfl
  have a1:=S.c 0 1 rfl rfl
  have a2:=S.c 0 2 rfl rfl
  have b0:=S.c 1 0 rfl rfl
  have b1:=S.c 1 1 rfl rfl
  have b2:=S.c 1 2 rfl rfl
  by_cases him:i < m
  ·have hil:i < ll.length:=by have:=hm.out; omega
   obtain ⟨p,off,rfl,hc⟩:=rd_lk (S.r 1 rfl) (by omega)
   obtain ⟨p',off',rfl,hc'⟩:=rd_lk (S.r 3 rfl) (by omega)
   obtain ⟨x0,x1,x2,x3,x3',x4,x5,x6⟩:=hc i hil
   obtain ⟨y0,y1,y2,y3,y3',y4,y5,y6⟩:=hc' i hil
   generalize ll[i] = x at *
   have NE:=fun W=>neq_lk W x
   have hG:=lk_guard
   unfold lkA at NE
   obtain ⟨xa,xb,xc,xd,xe,xf,xg⟩:=x
   simp only at x0 x1 x2 x3 x3' x4 x5 x6 y0 y1 y2 y3 y3' y4 y5 y6 NE
   clear hc hc' B1
   go_wp2_with fail
   go_quiet (fail)
   go_wp2_with fail
   go_round
   case rel=>exact ⟨i + 1,by go_num,by omega,S.drewN nq⟩
   case measure=>simp [intOf]; omega
  ·obtain rfl:i = m:=by omega
   have BA:=B1.out wr S.b
   replace BA:=Lib.hid BA
   clear B1
   go_wp2_with fail
   (with_reducible refine (BA.out).mono ?_)
   rintro e w3 ⟨rfl,hb⟩
   clear a0 a1 a2
   clear b0 b1 b2
   replace S:=S.call hb
   clear BA hb
   have a0:=S.c 0 0 rfl rfl
   have a1:=S.c 0 1 rfl rfl
   have a2:=S.c 0 2 rfl rfl
   have b0:=S.c 1 0 rfl rfl
   have b1:=S.c 1 1 rfl rfl
   have b2:=S.c 1 2 rfl rfl
   go_wp2_with fail
   go_ret
   exact ⟨rfl,S.b⟩
set_option maxRecDepth 100000 in
set_option maxHeartbeats 6400000 in
theorem rsameview8_any (w:World) (v u:Value) (t:Tp) (lp:List Bool) (hb1:busB t.ov = false) (hb2:busB lp = false) (D E:Option Addr) (k c d:Nat) (l:List Bool) (h:TpAt w v t) (h':TpAt w u ⟨t.n,lp,t.ln⟩) (hD:Rd w D (boV l)) (hE:Rd w E (boV l)) (hk:l.length = k) (hk9:k ≤ 1000000) :
  Calls Tryz.prog 16 #[v,u,.slice D k c,.slice E k d] w fun e w'=>e = .returned (.bool true) ∧ Below w.heap.size w w':=by
 obtain ⟨A,ca,B,da,rfl,_⟩:=id h
 obtain ⟨A',ca',B',da',rfl,_⟩:=id h'
 have S:=((((St.start w).read hE).read hD).new' #[.int .i64 t.n,.slice A t.ov.length ca,.slice B t.ln.length da] 25 w.heap.size _ rfl rfl).new' #[.int .i64 t.n,.slice A' lp.length ca',.slice B' t.ln.length da'] 25 (w.heap.size + 1) _ (by simp) rfl
 have SM:=rtsame8_any _ _ _ t lp (h.below S.b) (h'.below S.b) hb1 hb2
 replace SM:=Lib.hid SM
 clear hE hD h h'
 replace hk:=Lib.hid hk
 have e4:((k:Int) != (k:Int)) = false:=by simp
 generalize t.n = n at *
 generalize t.ov.length = ko at *
 clear hb1 hb2
 generalize lp.length = kp at *
 generalize t.ln.length = m at *
 have a0:=S.c 0 0 rfl rfl
 have a1:=S.c 0 1 rfl rfl
 have a2:=S.c 0 2 rfl rfl
 have b0:=S.c 1 0 rfl rfl
 have b1:=S.c 1 1 rfl rfl
 have b2:=S.c 1 2 rfl rfl
 go_enter Tryz.func16,Tryz.ntmps16
 go_wp2_with fail
 (with_reducible refine (SM.out).mono ?_)
 rintro e w1 ⟨rfl,hb⟩
 clear a0 a1 a2
 clear b0 b1 b2
 replace S:=S.call hb
 clear SM hb
 go_wp2_with fail
 replace S:=S.keepBoxes [] (by simp)
 go_loopw [9] (fun v9 wr=>∃ j:Nat,v9 = .int .i64 j ∧ j ≤ k ∧ St w wr [] [(D,boV l),(E,boV l)]) (fun v9 _=>k - (intOf v9).toNat)
 case atStart=>exact ⟨0,rfl,by omega,S⟩
 case round =>
  clear S
  obtain ⟨j,rfl,hj,S⟩:=hrel
  by_cases hjk:j < k
  ·have hjl:j < l.length:=by have:=hk.out; omega
   obtain ⟨p,off,rfl,hc⟩:=rd_bo (S.r 0 rfl) (by omega)
   obtain ⟨p',off',rfl,hc'⟩:=rd_bo (S.r 1 rfl) (by omega)
   have x0:=hc j hjl
   have y0:=hc' j hjl
   generalize l[j] = x at *
   have e5:(x != x) = false:=by simp
   clear hc hc'
   go_wp2_with fail
   go_quiet (fail)
   go_wp2_with fail
   go_round
   case rel=>exact ⟨j + 1,by go_num,by omega,S.drewN nq⟩
   case measure=>simp [intOf]; omega
  ·obtain rfl:j = k:=by omega
   go_wp2_with fail
   go_ret
   exact ⟨rfl,S.b⟩
end Go.Proofs.YtehimhbgakpenaaGreat

namespace Go.Proofs.YtehimhbgakpenaaGreat
set_option linter.unusedVariables false
open Go.RowKit Go.Maps Go.Sort
theorem busB_rep (n:Nat):busB (List.replicate n false) = false:=by
 unfold busB
 induction n with
 | zero=>rfl
 | succ n ih=>rw [List.replicate_succ]; simp
theorem ovs_nil {t:Tp} (h:t.ov = []) (n:Nat):(List.range n).map (ovB t) = List.replicate n false:=by
 refine List.ext_getElem (by simp) fun i h1 h2=>?_
 simp [ovB,h]
theorem ovs_full {t:Tp} {n:Nat} (h:t.ov.length = n):(List.range n).map (ovB t) = t.ov:=by
 refine List.ext_getElem (by simp [h]) fun i h1 h2=>?_
 simp only [List.length_map,List.length_range] at h1
 simp [ovB,List.getElem?_eq_getElem h2]
theorem vsame_any (w:World) (v u:Value) (t:Tp) (n:Nat) (hT:TpOk t) (hn:t.n = n) (D E:Option Addr) (k c d:Nat) (l:List Bool) (h:TpAt w v ⟨t.n,(List.range n).map (ovB t),t.ln⟩) (h':TpAt w u t) (hD:Rd w D (boV l)) (hE:Rd w E (boV l)) (hk:l.length = k) (hk9:k ≤ 1000000) :
  Calls Tryz.prog 16 #[v,u,.slice D k c,.slice E k d] w fun e w'=>e = .returned (.bool true) ∧ Below w.heap.size w w':=by
 rcases hT.ov with h0 | h0
 ·have h1:t.ov = []:=List.eq_nil_of_length_eq_zero h0
  have e:=ovs_nil h1 n
  have h2:TpAt w u ⟨t.n,[],t.ln⟩:=by
   have:(⟨t.n,[],t.ln⟩:Tp) = t:=by rw [← h1]
   rw [this]; exact h'
  exact rsameview8_any w v u ⟨t.n,(List.range n).map (ovB t),t.ln⟩ [] (by simp only [e]; exact busB_rep n) rfl D E k c d l h h2 hD hE hk hk9
 ·have e:=ovs_full (t:=t) (n:=n) (by omega)
  rw [e] at h
  exact rsameview_any w v u t D E k c d l h h' hD hE hk hk9
end Go.Proofs.YtehimhbgakpenaaGreat
