/-
  The texts CodIt, CodLaw, one after the other.
-/
import Derived.RangeFuncNested
import Derived.RangeFuncBound
import Derived.RangeFuncCalls
import Derived.RangeFuncLeaves
import Derived.OwnWalkIn
import Derived.TacticsInMore
import Derived.LoopNIn
import Derived.LoopIn
import Derived.Sort.QuietIn
import Derived.IntWalk
import Derived.Stop.RegionWithIn
import Derived.Test.YtehimhbgakpenaaGreatQPWith1
import Derived.Test.YtehimhbgakpenaaGreatQPWith0
namespace Go.Proofs.YtehimhbgakpenaaGreat
set_option linter.unusedVariables false
open Go.RowKit
attribute [local go_sem] Oper.semAt_some
theorem records_any (A:Option Addr) (n cap:Nat) (w:World) :
  Calls Tryz.prog 158 #[.slice A n cap] w fun e w'=>e = .returned (.func (.func 186) #[] #[.pointer (some ⟨w.heap.size,0,none⟩)]) ∧ w' = w.alloc (.cells #[.slice A n cap] 89):=by
 go_enter Tryz.func158,Tryz.ntmps158
 go_wp2_with fail
 go_ret
 exact ⟨rfl,rfl⟩
def ItPost (J:List Rec → World → Prop) (Jx:World → Prop) (D:Option (List Rec)) (e:Ending) (w':World):Prop :=
 (∃ v,e = .returned v) ∧ ((∃ l,D = some l ∧ J l w') ∨ (D = none ∧ Jx w'))
set_option maxHeartbeats 4000000 in
set_option maxRecDepth 100000 in
theorem recs_in (n:Nat) (hn:3 ≤ n) (l Bn n₀:Nat) (A:Option Addr) (q cap:Nat) (bs:List UInt8) (w:World) (hr:Bs w A bs) (hq:bs.length = q) (hcap:q ≤ cap) (hcm:cap ≤ 9223372036854775807) (hq2:q ≤ 1000000000)
  (hn0:w.heap.size = n₀) (J:List Rec → World → Prop) (Jx:World → Prop)
  (hJb:∀ s W W',J s W → Below W.heap.size W W' → J s W') (hJc:∀ s W u,J s W → J s (W.setCell ⟨Bn,0,none⟩ u))
  (hY:∀ (pre:List Rec) (W:World) (r:Rc),J pre W → pre.length ≤ 1000000000 → RcOwn W (Bn + 1) 5 r → (∃ u,W.cell? ⟨Bn,0,none⟩ = some u) → Below n₀ w W →
   YieldAt Fence.wide (n - 1) Tryz.prog l #[.agg #[.int .i64 r.t,.slice r.A r.n r.c],.bool true] W fun e W'=>e = .returned (.bool true) ∧ J (pre ++ [dat r]) W' ∧ W'.cell? ⟨Bn,0,none⟩ = W.cell? ⟨Bn,0,none⟩ ∧ W'.frozen? ⟨Bn,0,none⟩ = W.frozen? ⟨Bn,0,none⟩ ∧ Below n₀ W W')
  (hN:∀ (pre:List Rec) (W:World),J pre W → YieldAt Fence.wide (n - 1) Tryz.prog l #[.agg #[.int .i64 0,.slice none 0 0],.bool false] W fun e W'=>e = .returned (.bool false) ∧ Jx W')
  (W0:World) (hw:Below n₀ w W0) (hBn:n₀ ≤ Bn) (hc0:W0.cell? ⟨Bn,0,none⟩ = some (.slice A q cap)) (hf0:W0.frozen? ⟨Bn,0,none⟩ = false) (h0:J [] W0) :
  CallsIn Fence.wide n Tryz.prog 186 #[.func (.yield l) #[] #[],.pointer (some ⟨Bn,0,none⟩)] W0 (ItPost J Jx (decO bs)):=by
 subst hn0
 obtain ⟨D,hD⟩:∃ D,decO bs = D:=⟨_,rfl⟩
 have hDD:Hid (D = (decO bs).map (([]:List Rec) ++ ·)):=by show _ = _; rw [hD]; simp
 rw [hD]
 clear hD
 replace hq:=Lib.hid hq
 replace hJb:=Lib.hid hJb
 replace hJc:=Lib.hid hJc
 replace hY:=Lib.hid hY
 replace hN:=Lib.hid hN
 refine callsIn_of_wp Tryz.func186 rfl trivial ?_ rfl
 simp only [Tryz.ntmps186,List.size_toArray,List.length_cons,List.length_nil,Nat.reduceAdd,Nat.reduceSub,Array.replicate_succ,Array.replicate_zero,List.push_toArray,List.append_toArray,List.nil_append,List.cons_append]
 gi_wp2
 gi_loopw [3] (fun v3 wr=>∃ (B:Option Addr) (q c:Nat) (rest:List UInt8) (pre:List Rec),wr.cell? ⟨Bn,0,none⟩ = some (.slice B q c) ∧ wr.frozen? ⟨Bn,0,none⟩ = false ∧ Bs w B rest ∧ Hid (rest.length = q) ∧ q ≤ c ∧ c ≤ 9223372036854775807 ∧ pre.length + q ≤ 1000000000 ∧
   Hid (D = (decO rest).map (pre ++ ·)) ∧ Below w.heap.size w wr ∧ J pre wr) (fun v3 wr=>match wr.cell? ⟨Bn,0,none⟩ with | some (.slice _ q _)=>q | _=>0)
 case atStart=>exact ⟨A,q,cap,bs,[],hc0,hf0,hr,hq,hcap,hcm,by simpa using hq2,hDD,hw,h0⟩
 case round =>
  clear hc0 hf0 hr hq hcap hcm hq2 hDD hw h0
  obtain ⟨B,q,c,rest,pre,cb,fb,rd,hq,hqc,hc,hpq,hDD,hb,hJ⟩:=hrel
  by_cases hq0:q = 0
  ·subst hq0
   obtain rfl:=List.eq_nil_of_length_eq_zero hq.out
   have hd:D = some pre:=by rw [hDD.out,decO_nil]; simp
   subst hd
   gi_wp2
   go_end0
   exact ⟨⟨_,rfl⟩,.inl ⟨_,rfl,hJ⟩⟩
  have hne:rest ≠ []:=by rintro rfl; exact hq0 hq.out.symm
  have hB:hdBad rest = true → D = none:=fun h=>by rw [hDD.out,decO_bad rest hne h]; rfl
  obtain ⟨b,off,rfl,hcell⟩:=rd_at rd (by rw [List.length_map,hq.out]; omega)
  have hget:∀ j,j < q → w.cell? ⟨b,off + j,none⟩ = some (.int .u8 ((rest.getD j 0).toNat:Int)):=fun j hj=>by
   refine hcell j _ ?_
   rw [List.getElem?_map,List.getElem?_eq_getElem (by rw [hq.out]; exact hj)]
   simp [u8v,List.getD_eq_getElem?_getD,List.getElem?_eq_getElem (show j < rest.length by rw [hq.out]; exact hj)]
  have z0:=cell_later hb (hget 0 (by omega))
  have z1:=fun h=>cell_later hb (hget 1 h)
  have z2:=fun h=>cell_later hb (hget 2 h)
  rw [Nat.add_zero] at z0
  have l0:=UInt8.toNat_lt (rest.getD 0 0)
  have l1:=UInt8.toNat_lt (rest.getD 1 0)
  have l2:=UInt8.toNat_lt (rest.getD 2 0)
  unfold hdBad at hB
  have hN':Hid (hdN rest = (rest.getD 1 0).toNat * 256 + (rest.getD 2 0).toNat):=rfl
  have hR1:hdRec rest = (((rest.getD 0 0).toNat:Int),(rest.drop 3).take (hdN rest)):=rfl
  have hz:(rest.getD 0 0 == 0) = ((rest.getD 0 0).toNat == 0):=by
   rw [Bool.eq_iff_iff,beq_iff_eq,beq_iff_eq,← UInt8.toNat_inj]; rfl
  rw [hz,hq.out] at hB
  generalize (rest.getD 0 0).toNat = x0 at z0 l0 hB hR1
  generalize (rest.getD 1 0).toNat = x1 at z1 l1 hN'
  generalize (rest.getD 2 0).toNat = x2 at z2 l2 hN'
  clear hget hcell hz
  by_cases hx0:x0 = 0
  ·subst hx0
   obtain rfl:=hB (by simp)
   clear hR1 hB z1 z2
   obtain ⟨fn,tmps,assign,body,hy,hR⟩:=hN.out pre wr hJ
   gi_wp2
   refine ⟨fun _=>by omega,hR.mono ?_⟩
   rintro e W' ⟨rfl,hx⟩
   gi_wp2
   refine bodyPost_ret (results_none rfl _ _ _) rfl ?_
   exact ⟨⟨_,rfl⟩,.inr ⟨rfl,hx⟩⟩
  have hx0':((x0:Int) == 0) = false:=by simp; omega
  by_cases h3:q < 3
  ·obtain rfl:=hB (by simp; omega)
   clear hR1 hB z1 z2
   obtain ⟨fn,tmps,assign,body,hy,hR⟩:=hN.out pre wr hJ
   gi_wp2
   refine ⟨fun _=>by omega,hR.mono ?_⟩
   rintro e W' ⟨rfl,hx⟩
   gi_wp2
   refine bodyPost_ret (results_none rfl _ _ _) rfl ?_
   exact ⟨⟨_,rfl⟩,.inr ⟨rfl,hx⟩⟩
  replace z1:=z1 (by omega)
  replace z2:=z2 (by omega)
  replace hB:=Lib.hid hB
  replace hR1:=Lib.hid hR1
  have mcb:=Lib.hid cb
  gi_wp2
  gi_quiet (fail)
  have hb1:Below wr.heap.size wr (wr.drewN nq):=below_drewN (Below.refl _ _) nq
  replace hJ:=hJb.out _ _ _ hJ hb1
  replace cb:(wr.drewN nq).cell? _ = _:=cb
  replace fb:(wr.drewN nq).frozen? _ = _:=fb
  replace z0:(wr.drewN nq).cell? _ = _:=z0
  replace hb:=below_drewN hb nq
  clear z1 z2 hb1
  generalize wr.drewN nq = w1 at hJ cb fb z0 hb ⊢
  obtain ⟨N,hNe⟩:∃ N,hdN rest = N:=⟨_,rfl⟩
  have hx:3 + (x1:Int) * 256 + (x2:Int) = ((3 + N:Nat):Int):=by rw [← hNe,hN'.out]; omega
  rw [hx]
  rw [hNe] at hB hR1
  obtain ⟨M,hM⟩:∃ M,3 + N = M:=⟨_,rfl⟩
  rw [hM]
  by_cases hshort:q < M
  ·obtain rfl:=hB.out (by simp; right; omega)
   clear hR1 hB hx hNe hN' hM
   obtain ⟨fn,tmps,assign,body,hy,hR⟩:=hN.out pre w1 hJ
   gi_wp2
   refine ⟨fun _=>by omega,hR.mono ?_⟩
   rintro e W' ⟨rfl,hx⟩
   gi_wp2
   refine bodyPost_ret (results_none rfl _ _ _) rfl ?_
   exact ⟨⟨_,rfl⟩,.inr ⟨rfl,hx⟩⟩
  have hMq:M ≤ q:=by omega
  have hgood:Hid (hdBad rest = false):=by
   show _ = _
   by_cases hb:hdBad rest = true
   ·unfold hdBad at hb
    rw [hNe,hq.out] at hb
    simp only [Bool.or_eq_true,beq_iff_eq,decide_eq_true_eq] at hb
    rcases hb with (hb | hb) | hb
    ·have:=congrArg Prod.fst hR1.out
     unfold hdRec at this
     rw [hb] at this
     simp at this
     omega
    ·omega
    ·omega
   ·simpa using hb
  have hDD2:Hid (D = (decO (rest.drop M)).map (pre ++ [((x0:Int),(rest.drop 3).take N)] ++ ·)):=by
   show _ = _
   rw [hDD.out,decO_step rest hne hgood.out,hNe,hM,hR1.out,Option.map_map]
   congr 1
   funext y
   simp
  have hlt:Hid (((rest.drop 3).take N).length = N):=by
   show _ = _
   rw [List.length_take,List.length_drop,hq.out]; omega
  have rdv:=(rd.sub 3 c (by rw [List.length_map,hq.out]; exact hqc)).take N
  have rdn:=rd.sub M c (by rw [List.length_map,hq.out]; exact hqc)
  rw [← List.map_drop] at rdv rdn
  rw [← List.map_take] at rdv
  have hs1:=fun W=>run_sub bytesT (some ⟨b,off,none⟩) q c 3 M (by omega) (by omega) W (P:=Tryz.prog)
  have hs2:=fun W=>run_from bytesT (some ⟨b,off,none⟩) q c M (by omega) W (P:=Tryz.prog)
  rw [show M - 3 = N by omega] at hs1
  simp only [Int.cast_ofNat_Int] at hs1
  generalize subA (some ⟨b,off,none⟩) 3 c = A1 at rdv hs1
  generalize subA (some ⟨b,off,none⟩) M c = A2 at rdn hs2
  generalize (rest.drop 3).take N = vs at rdv hlt hDD2
  have hlen2:Hid ((rest.drop M).length = q - M):=by show _ = _; rw [List.length_drop,hq.out]
  generalize rest.drop M = rest2 at rdn hlen2 hDD2
  have hMq':(M:Int) ≤ (q:Int):=by omega
  have hM3:(3:Int) ≤ (M:Int):=by omega
  have hx0n:((x0:Int)) < 256:=by omega
  have hNc:N ≤ 140737488355328:=by omega
  have X:=Lib.hid (fun W hR=>callsIn_wide (n:=n - 1) |>.2 (clone_any A1 N (c - 3) vs W hR hlt.out hNc))
  have hwx:IntKind.i64.wrap (x0:Int) = (x0:Int):=IntWalk.i64_in _ (by omega)
  clear hB hR1 hDD hgood hx hNe hN' hshort hM
  have rdw:=rdv.below hb
  gi_wp2
  have hn1:Fence.wide.depth.isSome = true → 1 ≤ n:=fun _=>by omega
  have hpl:pre.length ≤ 1000000000:=by omega
  replace hpl:=Lib.hid hpl
  have hsz:=hb.size
  have hBn1:Bn + 1 ≤ w1.drew.heap.size:=World.block_lt_of_cell? _ _ cb
  have tok1:True:=trivial
  gi_region_with (first
   | (clear tok1; refine ⟨trivial,hn1,?_⟩; gi_at_call 187; refine (X.out w1.drew (Rd.drew rdw)).mono ?_; rintro e w2 ⟨v2,rfl,hownb,hbel⟩; obtain ⟨A3,c3,rfl,rd3,hc3,hc3m⟩:=own_rd hownb; have hJ2:=hJb.out _ _ _ (hJb.out _ _ _ hJ (Below.drew (Below.refl _ _))) hbel; have cb2:=cell_later hbel (show w1.drew.cell? _ = _ from cb); have z02:=cell_later hbel (show w1.drew.cell? _ = _ from z0); have fb2:=free_later hbel (show w1.drew.cell? _ = _ from cb) fb; have hb2:=(Below.drew hb).trans (hbel.mono hsz); obtain ⟨fn,tmps,assign,body,hy,hR⟩:=hY.out pre w2 ⟨x0,A3,N,c3,vs⟩ hJ2 hpl.out (own_mono hownb hBn1) ⟨_,cb2⟩ hb2)
   | (refine ⟨hn1,hR.mono ?_⟩; rintro e w3 ⟨rfl,hJ3,hcb3,hfb3,hb3⟩))
  all_goals
   have cb3:=hcb3.trans cb2
   have fb3:=hfb3.trans fb2
   have hb4:=hb2.trans hb3
   have hJ4:=hJc.out _ _ (.slice A2 (q - M) (c - M)) hJ3
   clear hcb3 hfb3 cb2 fb2 cb fb z0 z02 hJ3 hJ2 hJ hb hb2 hb3 hbel hownb hy hR X rdw hs1 hwx
   gi_wp2
   go_roundw
   case rel=>exact ⟨A2,q - M,c - M,rest2,pre ++ [((x0:Int),vs)],World.cell?_setCell_same w3 _ _ cb3,by simp [fb3],rdn,hlen2,by omega,by omega,by simp; omega,hDD2,hb4.setCell (p:=⟨Bn,0,none⟩) hBn _,hJ4⟩
   case measure=>rw [World.cell?_setCell_same w3 _ _ cb3,mcb.out]; simp; omega
end Go.Proofs.YtehimhbgakpenaaGreat

namespace Go.Proofs.YtehimhbgakpenaaGreat
set_option linter.unusedVariables false
open Go.RowKit
section
variable {F:Fence} {n:Nat} {P:Program}
def lrec (fn:FuncId) (tmps:Array Value) (ps:Array Tmp) (assign body:Code) (D:Nat) (st:LoopState) (pe:Option Code):Loop :=
 { state:=st,pending:=pe,fn,tmps,params:=ps,assign,body,defers:=D }
def endsRound (l:Nat) (rec:LoopState → Option Code → Loop) (R:Ending → World → Prop):Exit → Act → World → Prop
 | .normal,_,W=>W.heap[l]? = some (.loop (rec .busy none)) ∧ R (.returned (.bool true)) (W.putObj l (.loop (rec .ready none)))
 | .ret,_,W=>W.heap[l]? = some (.loop (rec .busy none)) ∧ R (.returned (.bool false)) (W.putObj l (.loop (rec .done (some .ret))))
 | _,_,_=>False
theorem yield_round {l m:Nat} {fn:FuncId} {tmps:Array Value} {ps:Array Tmp} {assign body:Code} {D:Nat} {LR:LoopState → Option Code → Loop} (hLR:LR = lrec fn tmps ps assign body D) (hfn:F.fn fn) {W:World} (hl:W.heap[l]? = some (.loop (LR .ready none)))
  {args:Array Value} (hs:args.size = ps.size) {R:Ending → World → Prop}
  (h:assign.wpIn (F.inRound l) m P (Exit.then (fun a₁ w₁=>w₁.heap[l]? = some (.loop (LR .ready none)) ∧
   body.wpIn (F.inRound l) m P (endsRound l LR R) a₁ (w₁.putObj l (.loop (LR .busy none)))) (fun _ _ _=>False))
   { tmps:=(ps.zip args).foldl (fun t (p,v)=>t.setIfInBounds p v) tmps,defers:=[] } W):YieldAt F m P l args W R:=by
 subst hLR
 refine ⟨fn,_,assign,body,run_yield hl hs,roundIn_of_wpIn hfn (wpIn_mono h ?_)⟩
 intro e a₁ w₁ hp
 cases e with
 | normal =>
   obtain ⟨hl1,hb⟩:=hp
   refine ⟨_,run_beginRound hl1 rfl,wpIn_mono hb ?_⟩
   intro e2 a2 W3 hq
   cases e2 with
   | normal=>exact ⟨_,_,run_endRound none hq.1,hq.2⟩
   | ret=>exact ⟨_,_,run_endRound (some .ret) hq.1,hq.2⟩
   | exit id=>exact hq.elim
   | goto t=>exact hq.elim
   | panic c=>exact hq.elim
   | outgrown=>exact hq.elim
 | ret=>exact hp.elim
 | exit id=>exact hp.elim
 | goto t=>exact hp.elim
 | panic c=>exact hp.elim
 | outgrown=>exact hp.elim
theorem range_law {g:Operand} {ps:Array Tmp} {assign body:Code} {Q:Exit → Act → World → Prop} {a:Act} {w:World} (hro:F.round = none) (h1:1 ≤ n) {gf:Nat} {lb:Array Value}
  (hg:a.eval g = .func (.func gf) #[] lb) (hFg:F.fn gf) (eg:∀ args w,(callFunc gf args).run P w = .ok (.enter gf args) w)
  (Jr:World → Prop) (Jx:World → Prop)
  (hJr:∀ W l o o',Jr W → w.heap.size ≤ l → W.heap[l]? = some o → o.isCells = false → Jr (W.putObj l o')) (hJx:∀ W l o o',Jx W → w.heap.size ≤ l → W.heap[l]? = some o → o.isCells = false → Jx (W.putObj l o'))
  (hiter:∀ fn,F.fn fn → ∀ LR:LoopState → Option Code → Loop,LR = lrec fn a.tmps ps assign body w.heap.size →
   CallsIn F (n - 1) P gf (#[.func (.yield (w.heap.size + 1)) #[] #[]] ++ lb) ((w.alloc (.deferred (some []))).alloc (.loop (LR .ready none))) fun e W'=>(∃ v,e = .returned v) ∧
   ((Jr W' ∧ W'.heap[w.heap.size + 1]? = some (.loop (LR .ready none)) ∧ W'.heap[w.heap.size]? = some (.deferred (some []))) ∨
    (Jx W' ∧ W'.heap[w.heap.size + 1]? = some (.loop (LR .done (some .ret))) ∧ W'.heap[w.heap.size]? = some (.deferred (some [])))))
  (hdone:∀ W,Jr W → W.heap[w.heap.size]? = some (.deferred (some [])) → Q .normal { a with defers:={ target:=.collected w.heap.size,args:=#[] } :: a.defers } W)
  (hstop:∀ W,Jx W → W.heap[w.heap.size]? = some (.deferred (some [])) → Code.ret.wpIn F n P Q { a with defers:={ target:=.collected w.heap.size,args:=#[] } :: a.defers } W) :
  (Code.rangeFunc g ps assign body).wpIn F n P Q a w:=by
 refine wpIn_rangeFunc fun fn hfn=>?_
 rw [hro]
 refine ⟨w.heap.size + 1,[{ target:=.collected w.heap.size,args:=#[] }],(w.alloc (.deferred (some []))).alloc (.loop (lrec fn a.tmps ps assign body w.heap.size .ready none)),
  { target:=.fn (.func gf) lb,args:=#[.func (.yield (w.heap.size + 1)) #[] #[]] },(w.alloc (.deferred (some []))).alloc (.loop (lrec fn a.tmps ps assign body w.heap.size .ready none)),gf,
  #[.func (.yield (w.heap.size + 1)) #[] #[]] ++ lb,(w.alloc (.deferred (some []))).alloc (.loop (lrec fn a.tmps ps assign body w.heap.size .ready none)),run_enterLoop_outer _ _ _ _ _,?_,?_,?_,fun _=>h1,?_⟩
 ·simp only [resolve,hg]
  simp [go_sem]
 ·intro f' hf'; simp [Target.leads] at hf'; subst hf'; exact hFg
 ·simp [invoke,go_sem,eg]
 ·refine (hiter fn hfn _ rfl).mono ?_
  rintro e W2 ⟨⟨v,rfl⟩,(⟨hj,hl,hk⟩ | ⟨hj,hl,hk⟩)⟩
  ·exact ⟨none,_,run_endLoop hl (by simp [lrec]),hdone _ (hJr _ _ _ _ hj (by omega) hl rfl) ((World.putObj_heap_other (by omega)).trans hk)⟩
  ·exact ⟨some .ret,_,run_endLoop hl (by simp [lrec]),hstop _ (hJx _ _ _ _ hj (by omega) hl rfl) ((World.putObj_heap_other (by omega)).trans hk)⟩
end
end Go.Proofs.YtehimhbgakpenaaGreat
