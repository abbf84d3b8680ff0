/- Lemmas. -/
import Derived.RangeFuncNested
import Derived.RangeFuncBound
import Derived.RangeFuncCalls
import Derived.RangeFuncLeaves
import Derived.OwnWalkIn
import Derived.TacticsInMore
import Derived.LoopNIn
import Derived.LoopIn
import Derived.Sort.QuietIn
import Derived.Stop.RegionWithIn
import Derived.Shelf.Abstract
import Derived.Deep.AppendLies
import Derived.Deep.RegionLaw
import Derived.Test.YtehimhbgakpenaaGreatE
import Derived.Test.YtehimhbgakpenaaGreatH
set_option linter.all false
set_option maxRecDepth 100000
set_option maxHeartbeats 16000000
namespace Go.Proofs.YtehimhbgakpenaaGreat
open Go.RowKit Go.Proofs.Tryz
attribute [local go_sem] Oper.semAt_some
def Fl(A:cG)(n cap:Nat)(w:World) :
  Calls prog 158 #[.slice A n cap] w fun e w'=>e= .returned (.func (.func 186) #[] #[.pointer (some ⟨w,0,none⟩)])∧w'=w.alloc (.cells #[.slice A n cap] 89):=by
 go_in;go_wp2;go_ret;exact⟨rfl,rfl⟩
def WU(J:List Rec→World→Prop)(Jx:World→Prop)(D:Option (List Rec))(e:Ending)(w':World):Prop :=
 (∃v,e= .returned v)∧((∃l,D=some l∧J l w')∨(D=none∧Jx w'))
def R9(n:Nat)(hn:3≤n)(l Bn n₀:Nat)(A:cG)(q cap:Nat)(bs:List UInt8)(w:World)(hr:Bs w A bs)(hq:bs.length=q)(I:q≤cap)(ac:cap≤9223372036854775807)(V:q≤1000000000)
  (ar:w.heap.size=n₀) (J:List Rec→World→Prop) (Jx:World→Prop)
  (z:∀s W W',J s W→cI W W'→J s W') (Q:∀s W u,J s W→J s (W.setCell ⟨Bn,0,none⟩ u))
  (hY:∀ (pre:List Rec) (W:World) (r:Rc),J pre W → pre.length ≤ 1000000000 → gK W (Bn + 1) 5 r → (∃ u,W.cell? ⟨Bn,0,none⟩ = some u) → Below n₀ w W →
   YieldAt Fence.wide (n - 1) prog l #[.agg #[r.t,.slice r.A r.n r.c],true] W fun e W'=>e = .returned (.bool true) ∧ J (pre ++ [nK r]) W' ∧ W'.cell? ⟨Bn,0,none⟩ = W.cell? ⟨Bn,0,none⟩ ∧ W'.frozen? ⟨Bn,0,none⟩ = W.frozen? ⟨Bn,0,none⟩ ∧ Below n₀ W W')
  (hN:∀(pre:List Rec) (W:World),J pre W→YieldAt Fence.wide (n - 1) prog l #[.agg #[.int .i64 0,.slice none 0 0],false] W fun e W'=>e= .returned (.bool false)∧Jx W')
  (W0:World) (hw:Below n₀ w W0) (ax:n₀≤Bn) (ad:W0.cell? ⟨Bn,0,none⟩=some (.slice A q cap)) (ab:W0.frozen? ⟨Bn,0,none⟩=false) (h0:J [] W0) :
  CallsIn Fence.wide n prog 186 #[.func (.yield l) #[] #[],.pointer (some ⟨Bn,0,none⟩)] W0 (WU J Jx (lH bs)):=by
 subst ar;obtain⟨D,hD⟩:∃D,lH bs=D:=⟨_,rfl⟩
 have g:Hid (D=(lH bs).map (([]:List Rec)++ ·)):=by show _=_;rw[hD];simp
 rw[hD];clear hD;replace hq:=φ hq;replace z:=φ z;replace Q:=φ Q;replace hY:=φ hY;replace hN:=φ hN;refine callsIn_of_wp func186 rfl trivial ?_ rfl;simp only[ntmps186,fT,List.length_cons,List.length_nil,Nat.reduceAdd,Nat.reduceSub,Cf,Array.replicate_zero,IZ,Ez,List.nil_append,List.cons_append]
 gi_wp2
 gi_loopw [3] (fun v3 wr=>∃ (B:cG) (q c:Nat) (rest:List UInt8) (pre:List Rec),wr.cell? ⟨Bn,0,none⟩ = some (.slice B q c) ∧ wr.frozen? ⟨Bn,0,none⟩ = false ∧ Bs w B rest ∧ Hid (rest.length = q) ∧ q ≤ c ∧ c ≤ 9223372036854775807 ∧ pre.length + q ≤ 1000000000 ∧
   Hid (D = (lH rest).map (pre ++ ·)) ∧ cI w wr ∧ J pre wr) (fun v3 wr=>match wr.cell? ⟨Bn,0,none⟩ with | some (.slice _ q _)=>q | _=>0)
 case atStart=>exact⟨A,q,cap,bs,[],ad,ab,hr,hq,I,ac,by simpa using V,g,hw,h0⟩
 case round=>
  clear ad ab hr hq I ac V g hw h0;obtain⟨B,q,c,rest,pre,cb,fb,rd,hq,U,hc,aE,g,hb,hJ⟩:=hrel
  by_cases hq0:q=0
  ·subst hq0;obtain rfl:=dy hq.out;have hd:D=some pre:=by rw[g.out,qQ];simp
   subst hd
   gi_wp2
   go_end0;exact⟨⟨_,rfl⟩,.inl ⟨_,rfl,hJ⟩⟩
  have Y:rest≠ []:=by rintro rfl;exact hq0 hq.out.symm
  have hB:qN rest=true→D=none:=fun h=>by rw[g.out,Gp rest Y h];rfl
  obtain⟨b,off,rfl,v⟩:=gE rd (by rw[dh,hq.out];omega);have i:∀j,j<q→w.cell? ⟨b,off+j,none⟩=some (.int .u8 ((rest.getD j 0).toNat:Int)):=fun j hj=>by
   refine v j _ ?_;rw[eJ,cM (by rw[hq.out];exact hj)];simp[iZ,List.getD_eq_getElem?_getD,cM (show j<rest.length by rw[hq.out];exact hj)]
  have z0:=cW hb (i 0 (by omega));have z1:=fun h=>cW hb (i 1 h)
  have z2:=fun h=>cW hb (i 2 h)
  rw[fM]at z0;have l0:=jF (rest.getD 0 0);have l1:=jF (rest.getD 1 0);have l2:=jF (rest.getD 2 0);unfold qN at hB;have x:Hid (Ge rest=(rest.getD 1 0).toNat*256+(rest.getD 2 0).toNat):=rfl;have a:uS rest=(((rest.getD 0 0).toNat:Int),(rest.drop 3).take (Ge rest)):=rfl;have hz:(rest.getD 0 0==0)=((rest.getD 0 0).toNat==0):=by
   rw[ga,ji,ji,←QL];rfl
  rw[hz,hq.out]at hB;generalize (rest.getD 0 0).toNat=x0 at z0 l0 hB a;generalize (rest.getD 1 0).toNat=x1 at z1 l1 x;generalize (rest.getD 2 0).toNat=x2 at z2 l2 x;clear i v hz
  by_cases hx0:x0=0
  ·subst hx0;obtain rfl:=hB (by simp);clear a hB z1 z2;obtain⟨fn,tmps,assign,body,hy,hR⟩:=hN.out pre wr hJ
   gi_wp2
   refine⟨fun _=>by omega,hR.mono ?_⟩
   rintro e W' ⟨rfl,hx⟩
   gi_wp2
   refine dc (ZN rfl _ _ _) rfl ?_;exact⟨⟨_,rfl⟩,.inr ⟨rfl,hx⟩⟩
  have aA:((x0:Int)==0)=false:=by simp;omega
  by_cases h3:q<3
  ·obtain rfl:=hB (by simp;omega);clear a hB z1 z2;obtain⟨fn,tmps,assign,body,hy,hR⟩:=hN.out pre wr hJ
   gi_wp2
   refine⟨fun _=>by omega,hR.mono ?_⟩
   rintro e W' ⟨rfl,hx⟩
   gi_wp2
   refine dc (ZN rfl _ _ _) rfl ?_;exact⟨⟨_,rfl⟩,.inr ⟨rfl,hx⟩⟩
  replace z1:=z1 (by omega);replace z2:=z2 (by omega);replace hB:=φ hB;replace a:=φ a;have am:=φ cb
  gi_wp2
  gi_quiet (fail)
  have af:cI wr (wr.drewN nq):=below_drewN cy nq;replace hJ:=z.out _ _ _ hJ af;replace cb:(wr.drewN nq).cell? _=_:=cb;replace fb:(wr.drewN nq).frozen? _=_:=fb;replace z0:(wr.drewN nq).cell? _=_:=z0;replace hb:=below_drewN hb nq;clear z1 z2 af;generalize wr.drewN nq=w1 at hJ cb fb z0 hb ⊢;obtain⟨N,k⟩:∃N,Ge rest=N:=⟨_,rfl⟩
  have hx:3+(x1:Int)*256+(x2:Int)=((3+N:Nat):Int):=by rw[←k,x.out];omega
  rw[hx];rw[k]at hB a;obtain⟨M,hM⟩:∃M,3+N=M:=⟨_,rfl⟩
  rw[hM]
  by_cases hshort:q<M
  ·obtain rfl:=hB.out (by simp;right;omega);clear a hB hx k x hM;obtain⟨fn,tmps,assign,body,hy,hR⟩:=hN.out pre w1 hJ
   gi_wp2
   refine⟨fun _=>by omega,hR.mono ?_⟩
   rintro e W' ⟨rfl,hx⟩
   gi_wp2
   refine dc (ZN rfl _ _ _) rfl ?_;exact⟨⟨_,rfl⟩,.inr ⟨rfl,hx⟩⟩
  have aG:M≤q:=by omega
  have o:Hid (qN rest=false):=by
   show _=_
   by_cases hb:qN rest=true
   ·unfold qN at hb;rw[k,hq.out]at hb;simp only[sE,ji,fa]at hb;rcases hb with (hb|hb)|hb
    ·have:=dU Prod.fst a.out;unfold uS at this;rw[hb]at this;simp at this;omega
    ·omega
    ·omega
   ·simpa using hb
  have C:Hid (D=(lH (rest.drop M)).map (pre++ [((x0:Int),(rest.drop 3).take N)]++ ·)):=by
   show _=_
   rw[g.out,ud rest Y o.out,k,hM,a.out,Option.map_map]
   congr 1
   funext y
   simp
  have aa:Hid (((rest.drop 3).take N).length=N):=by
   show _=_
   rw[eM,fz,hq.out];omega
  have rdv:=(rd.sub 3 c (by rw[dh,hq.out];exact U)).take N;have E:=rd.sub M c (by rw[dh,hq.out];exact U);rw[←ED]at rdv E;rw[←WW]at rdv;have F:=fun W=>Jq jm (some ⟨b,off,none⟩) q c 3 M (by omega) (by omega) W (P:=prog)
  have aq:=fun W=>wh jm (some ⟨b,off,none⟩) q c M (by omega) W (P:=prog)
  rw[show M - 3=N by omega]at F;simp only[Int.cast_ofNat_Int]at F;generalize oa (some ⟨b,off,none⟩) 3 c=A1 at rdv F;generalize oa (some ⟨b,off,none⟩) M c=A2 at E aq;generalize (rest.drop 3).take N=vs at rdv aa C;have m:Hid ((rest.drop M).length=q - M):=by show _=_;rw[fz,hq.out]
  generalize rest.drop M=K at E m C;have aC:(M:Int)≤(q:Int):=by omega
  have aH:(3:Int)≤(M:Int):=by omega
  have az:((x0:Int))<256:=by omega
  have av:N≤140737488355328:=by omega
  have X:=φ (fun W hR=>iY (n:=n - 1)|>.2 (C9 A1 N (c - 3) vs W hR aa.out av));have ao:IntKind.i64.wrap (x0:Int)=(x0:Int):=kV _ (by omega);clear hB a g o hx k x hshort hM;have T:=rdv.below hb
  gi_wp2
  have Z:Fence.wide.depth.isSome=true→1≤n:=fun _=>by omega
  have L:pre.length≤1000000000:=by omega
  replace L:=φ L;have ap:=hb.size;have ai:Bn+1≤w1.drew.heap.size:=dm _ _ cb;have S:True:=trivial
  gi_region_with (first
   |(clear S;refine⟨trivial,Z,?_⟩;gi_at_call 187;refine(X.out w1.drew (Rd.drew T)).mono ?_;rintro e w2 ⟨v2,rfl,f,d⟩;obtain⟨A3,c3,rfl,aD,aF,aB⟩:=dN f;have ah:=z.out _ _ _ (z.out _ _ _ hJ (Below.drew cy)) d;have R:=cW d (show w1.drew.cell? _=_ from cb);have al:=cW d (show w1.drew.cell? _=_ from z0);have aj:=fL d (show w1.drew.cell? _=_ from cb) fb;have O:=(Below.drew hb).trans (d.mono ap);obtain⟨fn,tmps,assign,body,hy,hR⟩:=hY.out pre w2 ⟨x0,A3,N,c3,vs⟩ ah L.out (dx f ai) ⟨_,R⟩ O)
   | (refine ⟨Z,hR.mono ?_⟩; rintro e w3 ⟨rfl,ag,H,G,ae⟩))
  all_goals
   have ak:=H.trans R;have ay:=G.trans aj;have au:=O.trans ae;have aw:=Q.out _ _ (.slice A2 (q - M) (c - M)) ag;clear H G R aj cb fb z0 al ag ah hJ hb O ae d f hy hR X T F ao
   gi_wp2
   go_roundw
   case rel=>exact⟨A2,q - M,c - M,K,pre++ [((x0:Int),vs)],fC w3 _ _ ak,by simp[ay],E,m,by omega,by omega,by simp;omega,C,au.setCell (p:=⟨Bn,0,none⟩) ax _,aw⟩
   case measure=>rw[fC w3 _ _ ak,am.out];simp;omega
section
variable {F:Fence} {n:Nat} {P:Program}
def Ij(fn:FuncId)(tmps:Array Value)(ps:Array Tmp)(assign body:Code)(D:Nat)(st:LoopState)(pe:Option Code):Loop :=
 { state:=st,pending:=pe,fn,tmps,params:=ps,assign,body,defers:=D }
def Md(l:Nat)(rec:LoopState→Option Code→Loop)(R:Ending→World→Prop):Exit→Act→World→Prop
 | .normal,_,W=>W.heap[l]?=some (.loop (rec .busy none))∧R (.returned (.bool true)) (W.putObj l (.loop (rec .ready none)))
 | .ret,_,W=>W.heap[l]?=some (.loop (rec .busy none))∧R (.returned (.bool false)) (W.putObj l (.loop (rec .done (some .ret))))
 |_,_,_=>False
def yu{l m:Nat}{fn:FuncId}{tmps:Array Value}{ps:Array Tmp}{assign body:Code}{D:Nat}{LR:LoopState→Option Code→Loop}(d:LR=Ij fn tmps ps assign body D)(b:F.fn fn){W:World}(hl:W.heap[l]?=some (.loop (LR .ready none)))
  {args:Array Value} (hs:args.size=ps.size) {R:Ending→World→Prop}
  (h:assign.wpIn (F.inRound l) m P (Exit.then (fun a₁ w₁=>w₁.heap[l]? = some (.loop (LR .ready none)) ∧
   body.wpIn (F.inRound l) m P (Md l LR R) a₁ (w₁.putObj l (.loop (LR .busy none)))) (fun _ _ _=>False))
   { tmps:=(ps.zip args).foldl (fun t (p,v)=>t.setIfInBounds p v) tmps,defers:=[] } W):YieldAt F m P l args W R:=by
 subst d;refine⟨fn,_,assign,body,run_yield hl hs,roundIn_of_wpIn b (wpIn_mono h ?_)⟩
 intro e a₁ w₁ hp;cases e with
 |normal=>
   obtain⟨a,hb⟩:=hp;refine⟨_,run_beginRound a rfl,wpIn_mono hb ?_⟩
   intro e2 a2 W3 hq;cases e2 with
   |normal=>exact⟨_,_,run_endRound none hq.1,hq.2⟩
   |ret=>exact⟨_,_,run_endRound (some .ret) hq.1,hq.2⟩
   |exit id=>exact hq.elim
   |goto t=>exact hq.elim
   |panic c=>exact hq.elim
   |outgrown=>exact hq.elim
 |ret=>exact hp.elim
 |exit id=>exact hp.elim
 |goto t=>exact hp.elim
 |panic c=>exact hp.elim
 |outgrown=>exact hp.elim
def K0{g:Operand}{ps:Array Tmp}{assign body:Code}{Q:Exit→Act→World→Prop}{a:Act}{w:World}(h:F.round=none)(h1:1≤n){gf:Nat}{lb:Array Value}
  (hg:a.eval g= .func (.func gf) #[] lb) (m:F.fn gf) (eg:∀args w,(callFunc gf args).run P w= .ok (.enter gf args) w)
  (Jr:World→Prop) (Jx:World→Prop)
  (k:∀W l o o',Jr W→w.heap.size≤l→W.heap[l]?=some o→o.isCells=false→Jr (W.putObj l o')) (j:∀W l o o',Jx W→w.heap.size≤l→W.heap[l]?=some o→o.isCells=false→Jx (W.putObj l o'))
  (c:∀ fn,F.fn fn → ∀ LR:LoopState → Option Code → Loop,LR = Ij fn a.tmps ps assign body w.heap.size →
   CallsIn F (n - 1) P gf (#[.func (.yield (w.heap.size+1)) #[] #[]]++lb) ((w.alloc (.deferred (some []))).alloc (.loop (LR .ready none))) fun e W'=>(∃v,e= .returned v) ∧
   ((Jr W' ∧ W'.heap[w.heap.size + 1]? = some (.loop (LR .ready none)) ∧ W'.heap[w.heap.size]? = some (.deferred (some []))) ∨
    (Jx W' ∧ W'.heap[w.heap.size + 1]? = some (.loop (LR .done (some .ret))) ∧ W'.heap[w.heap.size]? = some (.deferred (some [])))))
  (d:∀W,Jr W→W.heap[w.heap.size]?=some (.deferred (some []))→Q .normal { a with defers:={ target:=.collected w.heap.size,args:=#[] } :: a.defers } W)
  (b:∀W,Jx W→W.heap[w.heap.size]?=some (.deferred (some []))→Code.ret.wpIn F n P Q { a with defers:={ target:=.collected w.heap.size,args:=#[] } :: a.defers } W) :
  (Code.rangeFunc g ps assign body).wpIn F n P Q a w:=by
 refine wpIn_rangeFunc fun fn i=>?_
 rw[h];refine ⟨w.heap.size + 1,[{ target:=.collected w.heap.size,args:=#[] }],(w.alloc (.deferred (some []))).alloc (.loop (Ij fn a.tmps ps assign body w.heap.size .ready none)),
  { target:=.fn (.func gf) lb,args:=#[.func (.yield (w.heap.size+1)) #[] #[]] },(w.alloc (.deferred (some []))).alloc (.loop (Ij fn a.tmps ps assign body w.heap.size .ready none)),gf,
  #[.func (.yield (w.heap.size + 1)) #[] #[]] ++ lb,(w.alloc (.deferred (some []))).alloc (.loop (Ij fn a.tmps ps assign body w.heap.size .ready none)),run_enterLoop_outer _ _ _ _ _,?_,?_,?_,fun _=>h1,?_⟩
 ·simp only[resolve,hg];simp[go_sem]
 ·intro f' f;simp[Target.leads]at f;subst f;exact m
 ·simp[invoke,go_sem,eg]
 ·refine(c fn i _ rfl).mono ?_;rintro e W2 ⟨⟨v,rfl⟩,(⟨hj,hl,hk⟩|⟨hj,hl,hk⟩)⟩
  ·exact⟨none,_,run_endLoop hl (by simp[Ij]),d _ (k _ _ _ _ hj (by omega) hl rfl) ((World.putObj_heap_other (by omega)).trans hk)⟩
  ·exact⟨some .ret,_,run_endLoop hl (by simp[Ij]),b _ (j _ _ _ _ hj (by omega) hl rfl) ((World.putObj_heap_other (by omega)).trans hk)⟩
end
end Go.Proofs.YtehimhbgakpenaaGreat
namespace Go.Proofs.YtehimhbgakpenaaGreat
open Go.RowKit Go.Shelf Go.Proofs.Tryz
attribute [local go_sem] Oper.semAt_some
def Xz:iF prog 211 215 (.agg #[.int .i64 0,.slice none 0 0]) 2 32:=⟨underlying211,by kernel_rfl,rfl,by omega⟩
structure vI (w W:World) (rs:List Rc) (v:Value):Prop where
 c:W.cell? ⟨w.heap.size+2,0,none⟩=some v
 f:W.frozen? ⟨w.heap.size+2,0,none⟩=false
 own:W.ownsRow (w.heap.size+4) 215 2 v rs.length (kM rs)
 rs:∀r∈rs,gK W (w.heap.size+4) 5 r
 c0:W.cell? ⟨w,0,none⟩=some (.slice none 0 0)
 f0:W.frozen? ⟨w,0,none⟩=false
 c1:W.cell? ⟨w.heap.size+1,0,none⟩=some (.int .i64 0)
 f1:W.frozen? ⟨w.heap.size+1,0,none⟩=false
 b:cI w W
structure Mz (w W:World):Prop where
 c0:W.cell? ⟨w,0,none⟩=some (.slice none 0 0)
 c1:W.cell? ⟨w.heap.size+1,0,none⟩=some (.int .i64 4)
 b:cI w W
def gR{W:World}{p q:Addr}{v:Value}(u:Value)(h:W.cell? q=some v)(hne:q≠p):(W.setCell p u).cell? q=some v:=(cell_far u (fun e=>hne e.symm)).trans h
def vI.below{w W W':World}{rs:List Rc}{v:Value}(h:vI w W rs v)(hb:cI W W'):vI w W' rs v :=
 ⟨cW hb h.c,fL hb h.c h.f,dg h.own hb,fun r hr=>(h.rs r hr).below hb,cW hb h.c0,fL hb h.c0 h.f0,cW hb h.c1,fL hb h.c1 h.f1,h.b.trans (hb.mono h.b.size)⟩
def vI.set{w W:World}{rs:List Rc}{v:Value}(h:vI w W rs v)(u:Value):vI w (W.setCell ⟨w.heap.size+3,0,none⟩ u) rs v :=
 ⟨gR u h.c (by simp),by simp [h.f],cV h.own (a:=⟨w.heap.size + 3,0,none⟩) (il _) u,fun r hr=>(h.rs r hr).set (a:=⟨w.heap.size + 3,0,none⟩) (il _) u,
  gR u h.c0 (by simp),by simp [h.f0],gR u h.c1 (by simp),by simp [h.f1],h.b.setCell (p:=⟨w.heap.size + 3,0,none⟩) (by simp) u⟩
def vI.put{w W:World}{rs:List Rc}{v:Value}(h:vI w W rs v){l:Nat}{o:Obj}(o':Obj)(hw:w≤l)(hl:W.heap[l]?=some o)(ho:o.isCells=false):vI w (W.putObj l o') rs v :=
 have hg:=grownBy_putObj' W l o';have hk:∀r,some l=some r→ ∃o:Obj,W.heap[r]?=some o∧o.isCells=false:=fun r e=>by cases e;exact⟨o,hl,ho⟩
 ⟨cell_kept h.c hg hk,(frozen_kept h.c hg hk).trans h.f,ownsRow_putObj h.own o' hl ho,fun r hr=>ownsRow_putObj (h.rs r hr) o' hl ho,cell_kept h.c0 hg hk,(frozen_kept h.c0 hg hk).trans h.f0,cell_kept h.c1 hg hk,(frozen_kept h.c1 hg hk).trans h.f1,
  h.b.grown hg h.b.size fun k e=>by cases e; exact hw⟩
def Mz.put{w W:World}(h:Mz w W){l:Nat}{o:Obj}(o':Obj)(hw:w≤l)(hl:W.heap[l]?=some o)(ho:o.isCells=false):Mz w (W.putObj l o') :=
 have hg:=grownBy_putObj' W l o';have hk:∀r,some l=some r→ ∃o:Obj,W.heap[r]?=some o∧o.isCells=false:=fun r e=>by cases e;exact⟨o,hl,ho⟩
 ⟨cell_kept h.c0 hg hk,cell_kept h.c1 hg hk,h.b.grown hg h.b.size fun k e=>by cases e;exact hw⟩
def yL(A:cG)(n cap:Nat)(bs:List UInt8)(w:World)(hr:Bs w A bs)(hn:bs.length=n)(ai:n≤cap)(hm:cap≤maxLen)(aC:n≤1000000000) :
  Calls prog 111 #[.slice A n cap] w (Ke 215 5 w bs):=by
 unfold maxLen at hm;obtain⟨D,hD⟩:∃D,lH bs=D:=⟨_,rfl⟩
 have am:Ke 215 5 w bs=QJ 215 5 w D:=by subst hD;rfl
 rw[am];clear am;change Hid _ at hn hD;refine(iY (n:=6)).1 ?_;refine callsIn_of_wp_marks func111 rfl trivial ?_ rfl;simp only[ntmps111,fT,List.length_cons,List.length_nil,Nat.reduceAdd,Nat.reduceSub,Cf,Array.replicate_zero,IZ,Ez,List.nil_append,List.cons_append];have aM:Fence.wide.depth.isSome=true→1≤6:=fun _=>by omega
 gi_wp2_with (refine⟨trivial,?_⟩;gi_at_call 158;refine(iY.2 (Fl _ _ _ _)).mono ?_;rintro e w' ⟨rfl,rfl⟩)
 obtain⟨Wr,E⟩:∃Wr,(((w.alloc (.cells #[sn] 211)).alloc (.cells #[i0] 32)).alloc (.cells #[sn] 211)).alloc (.cells #[.slice A n cap] 89)=Wr:=⟨_,rfl⟩
 have M:Wr.heap.size=w.heap.size+4:=by rw[←E];simp
 have ao:vI w Wr [] sn:=by
  have S:=(((((St.start w).nw #[sn] 211 w.heap.size).nw #[i0] 32 (w.heap.size+1)).nw #[sn] 211 (w.heap.size+2)).nw #[.slice A n cap] 89 (w.heap.size+3))
  rw[E]at S;exact⟨S.c 1 0 rfl rfl,S.f 1 0 rfl rfl,cn,by simp,S.c 3 0 rfl rfl,S.f 3 0 rfl rfl,S.c 2 0 rfl rfl,S.f 2 0 rfl rfl,S.b⟩
 have Z:Cv Wr (w.heap.size+3) 0 (.slice A n cap)∧Wr.frozen? ⟨w.heap.size+3,0,none⟩=false:=by
  have:=fq.new (((w.alloc (.cells #[sn] 211)).alloc (.cells #[i0] 32)).alloc (.cells #[sn] 211)) #[.slice A n cap] 89 0 _ rfl;rw[E]at this;simpa using this
 replace E:=φ E
 gi_wp2
 rw[E.out];refine K0 rfl (by omega) (gf:=186) (lb:=#[.pointer (some ⟨w.heap.size+3,0,none⟩)]) rfl trivial (enters_of func186 (by kernel_rfl) rfl)
  (fun W=>∃rs v,D=some (rs.map nK)∧vI w W rs v) (fun W=>D=none∧Mz w W) ?pr ?px ?iter ?done ?stop
 case pr=>
  rintro W l o o' ⟨rs,v,e,h⟩ hl ho hc;exact⟨rs,v,e,h.put o' (by omega) ho hc⟩
 case px=>
  rintro W l o o' ⟨e,h⟩ hl ho hc;exact⟨e,h.put o' (by omega) ho hc⟩
 case done=>
  rintro W ⟨rs,v,rfl,h⟩ hK;rw[M]at hK;obtain⟨c,f,own,B,c0,f0,c1,f1,hb⟩:=h;obtain⟨A',c',rfl,aK,aP,aO⟩:=dN own;obtain⟨W2,x⟩:∃W2,(W.setCell ⟨w.heap.size,0,none⟩ (.slice A' rs.length c')).setCell ⟨w.heap.size+1,0,none⟩ i0=W2:=⟨_,rfl⟩
  have H:W2.heap[w.heap.size+4]?=some (.deferred (some [])):=by
   rw[←x,gm _ _ _ _ (by simp),gm _ _ _ _ (by simp)];exact hK
  have T:W2.ownsRow (w.heap.size+4) 215 2 (.slice A' rs.length c') rs.length (kM rs):=by
   rw[←x];exact cV (cV own (a:=⟨w.heap.size,0,none⟩) (by show w.heap.size<_;omega) _) (a:=⟨w.heap.size+1,0,none⟩) (by show w.heap.size+1<_;omega) _
  have af:∀r∈rs,gK W2 (w.heap.size+4) 5 r:=by
   rw[←x];exact fun r hr=>((B r hr).set (a:=⟨w.heap.size,0,none⟩) (by show w.heap.size<_;omega) _).set (a:=⟨w.heap.size+1,0,none⟩) (by show w.heap.size+1<_;omega) _
  have al:cI w W2:=by
   rw[←x];exact(hb.setCell (p:=⟨w.heap.size,0,none⟩) cj _).setCell (p:=⟨w.heap.size+1,0,none⟩) (by simp) _
  have e0:Cv W2 w.heap.size 0 (.slice A' rs.length c'):=by
   rw[←x];exact gR _ (fC _ _ _ c0) (by simp)
  have e1:Cv W2 (w.heap.size+1) 0 i0:=by
   rw[←x];exact fC _ _ _ (gR _ c1 (by simp))
  have hg:=grownBy_putObj' W2 (w.heap.size+4) (.deferred none);have hk:∀r,some (w.heap.size+4)=some r→ ∃o:Obj,W2.heap[r]?=some o∧o.isCells=false:=fun r e=>by cases e;exact⟨_,H,rfl⟩
  have d0:=cell_kept e0 hg hk;have d1:=cell_kept e1 hg hk;change Hid _ at x H;clear e0 e1
  gi_wp2
  rw[x.out,M];refine⟨by simp,.inl ⟨_,_,rfl,run_takeDeferred H.out,?_⟩⟩
  refine⟨.tuple #[.slice A' rs.length c',i0],by simp[results,results111,go_sem,d0,d1],?_⟩
  exact⟨_,rs,rfl,dx (ownsRow_putObj T _ H.out rfl) (by omega),fun r hr=>gK.mono (ownsRow_putObj (af r hr) _ H.out rfl) (by omega),rfl,al.grown hg al.size fun k e=>by cases e;omega⟩
 case stop=>
  rintro W ⟨rfl,h⟩ hK;rw[M]at hK;obtain⟨c0,c1,hb⟩:=h;have hg:=grownBy_putObj' W (w.heap.size+4) (.deferred none);have hk:∀r,some (w.heap.size+4)=some r→ ∃o:Obj,W.heap[r]?=some o∧o.isCells=false:=fun r e=>by cases e;exact⟨_,hK,rfl⟩
  have d0:=cell_kept c0 hg hk;have d1:=cell_kept c1 hg hk;replace hK:=φ hK
  gi_wp2
  rw[M];refine⟨by simp,.inl ⟨_,_,rfl,run_takeDeferred hK.out,?_⟩⟩
  refine⟨.tuple #[sn,.int .i64 4],by simp[results,results111,go_sem,d0,d1],?_⟩
  exact⟨_,[],rfl,cn,by simp,rfl,hb.grown hg hb.size fun k e=>by cases e;omega⟩
 case iter=>
  intro fn aN LR P;obtain⟨W1,G⟩:∃W1,(Wr.alloc (.deferred (some []))).alloc (.loop (LR .ready none))=W1:=⟨_,rfl⟩
  have C:cI Wr W1:=by rw[←G];exact((sa _ Wr).alloc cj _).alloc (by simp) _
  have ab:W1.heap[Wr.heap.size+1]?=some (.loop (LR .ready none)):=by
   rw[←G];have:=World.alloc_heap_new (Wr.alloc (.deferred (some []))) (.loop (LR .ready none));rwa[fD]at this
  have ac:W1.heap[Wr.heap.size]?=some (.deferred (some [])):=by
   rw[←G];exact(ky _ _ _ (by simp)).trans (World.alloc_heap_new Wr _)
  rw[G];refine (R9 5 (by omega) (Wr.heap.size + 1) (w.heap.size + 3) w.heap.size A n cap bs w hr hn.out ai (by omega) aC rfl
   (fun pre W=>(∃rs v,rs.map nK=pre∧vI w W rs v)∧W.heap[Wr.heap.size+1]?=some (.loop (LR .ready none))∧W.heap[Wr.heap.size]?=some (.deferred (some [])))
   (fun W=>Mz w W∧W.heap[Wr.heap.size+1]?=some (.loop (LR .done (some .ret)))∧W.heap[Wr.heap.size]?=some (.deferred (some [])))
   ?jb ?jc ?jy ?jn W1 ((ao.below C).b) (by omega) (cW C Z.1) (fL C Z.1 Z.2) ⟨⟨[],_,rfl,ao.below C⟩,ab,ac⟩).mono ?fin
  case jb=>
   rintro s W W' ⟨⟨rs,v,e,h⟩,hl,hk⟩ hb;exact⟨⟨rs,v,e,h.below hb⟩,(hb.block _ (df.1 hl).1).trans hl,(hb.block _ (df.1 hk).1).trans hk⟩
  case jc=>
   rintro s W u ⟨⟨rs,v,e,h⟩,hl,hk⟩;exact⟨⟨rs,v,e,h.set u⟩,(gm _ _ _ _ (by show _≠w.heap.size+3;omega)).trans hl,(gm _ _ _ _ (by show _≠w.heap.size+3;omega)).trans hk⟩
  case fin=>
   rintro e W' ⟨hv,(⟨l,hl,⟨rs,v,rfl,h⟩,h2,h3⟩|⟨hl,h,h2,h3⟩)⟩
   ·exact⟨hv,.inl ⟨⟨rs,v,hD.out.symm.trans hl,h⟩,h2,h3⟩⟩
   ·exact⟨hv,.inr ⟨⟨hD.out.symm.trans hl,h⟩,h2,h3⟩⟩
  case jn=>
   rintro pre W ⟨⟨rs,v,e,h⟩,hl,hk⟩;refine yu P trivial hl rfl ?_;clear P G ab C ac
   gi_wp2
   have m:=(ky W (.cells #[i0,sn] 215) _ (df.1 hl).1).trans hl;have K:=(ky W (.cells #[i0,sn] 215) _ (df.1 hk).1).trans hk;refine⟨m,?_⟩
   obtain⟨Wb,d⟩:∃Wb,(W.alloc (.cells #[i0,sn] 215)).putObj (Wr.heap.size+1) (.loop (LR .busy none))=Wb:=⟨_,rfl⟩
   have ad:vI w Wb rs v:=by rw[←d];exact(h.below (cQ W _)).put _ (by omega) m rfl
   have I:Wb.heap[Wr.heap.size+1]?=some (.loop (LR .busy none)):=by rw[←d];exact World.putObj_heap_same (df.1 m).1
   have J:Wb.heap[Wr.heap.size]?=some (.deferred (some [])):=by rw[←d];exact(World.putObj_heap_other (by omega)).trans K
   rw[d];clear d m K hl hk h;obtain⟨c,f,own,B,c0,f0,c1,f1,hb⟩:=ad;obtain⟨W3,F⟩:∃W3,(Wb.setCell ⟨w.heap.size,0,none⟩ sn).setCell ⟨w.heap.size+1,0,none⟩ (.int .i64 4)=W3:=⟨_,rfl⟩
   have hX:Mz w W3:=by
    rw[←F];exact⟨gR _ (fC _ _ _ c0) (by simp),fC _ _ _ (gR _ c1 (by simp)),(hb.setCell (p:=⟨w.heap.size,0,none⟩) cj _).setCell (p:=⟨w.heap.size+1,0,none⟩) (by simp) _⟩
   have V:W3.heap[Wr.heap.size+1]?=some (.loop (LR .busy none)):=by
    rw[←F,gm _ _ _ _ (by show _≠w.heap.size+1;omega),gm _ _ _ _ (by show _≠w.heap.size;omega)];exact I
   have aD:W3.heap[Wr.heap.size]?=some (.deferred (some [])):=by
    rw[←F,gm _ _ _ _ (by show _≠w.heap.size+1;omega),gm _ _ _ _ (by show _≠w.heap.size;omega)];exact J
   replace F:=φ F
   gi_wp2
   rw[F.out];exact⟨V,rfl,hX.put _ (by omega) V rfl,World.putObj_heap_same (df.1 V).1,(World.putObj_heap_other (by omega)).trans aD⟩
  case jy=>
   rintro pre W r ⟨⟨rs,v,rfl,h⟩,hl,hk⟩ aA R ⟨u,hu⟩ aa;refine yu P trivial hl rfl ?_;clear P G ab C ac;have ag:=R;obtain⟨t,A3,N,c3,vs⟩:=r
   gi_wp2
   have m:=(ky W (.cells #[t,.slice A3 N c3] 215) _ (df.1 hl).1).trans hl;have K:=(ky W (.cells #[t,.slice A3 N c3] 215) _ (df.1 hk).1).trans hk;have ae:=fq.new W #[t,.slice A3 N c3] 215;refine⟨m,?_⟩
   have O:=grownBy_putObj' (W.alloc (.cells #[t,.slice A3 N c3] 215)) (Wr.heap.size+1) (.loop (LR .busy none));have Y:∀r,some (Wr.heap.size+1)=some r→ ∃o:Obj,(W.alloc (.cells #[t,.slice A3 N c3] 215)).heap[r]?=some o∧o.isCells=false:=fun r e=>by cases e;exact⟨_,m,rfl⟩
   obtain⟨Wb,d⟩:∃Wb,(W.alloc (.cells #[t,.slice A3 N c3] 215)).putObj (Wr.heap.size+1) (.loop (LR .busy none))=Wb:=⟨_,rfl⟩
   have ad:vI w Wb rs v:=by rw[←d];exact(h.below (cQ W _)).put _ (by omega) m rfl
   have aw:gK Wb (w.heap.size+4) 5 ⟨t,A3,N,c3,vs⟩:=by rw[←d];exact ownsRow_putObj (R.below (cQ W _)) _ m rfl
   have I:Wb.heap[Wr.heap.size+1]?=some (.loop (LR .busy none)):=by rw[←d];exact World.putObj_heap_same (df.1 m).1
   have J:Wb.heap[Wr.heap.size]?=some (.deferred (some [])):=by rw[←d];exact(World.putObj_heap_other (by omega)).trans K
   have b0:Cv Wb W.heap.size 0 t:=by rw[←d];exact cell_kept (ae.c 0 rfl) O Y
   have b1:Cv Wb W.heap.size 1 (.slice A3 N c3):=by rw[←d];exact cell_kept (ae.c 1 rfl) O Y
   have sb:∀k,k<W.heap.size→k≠Wr.heap.size+1→Wb.heap[k]?=W.heap[k]?:=fun k h1 h2=>by rw[←d];exact(World.putObj_heap_other (by omega)).trans (ky W _ _ h1)
   have aJ:W.heap.size<Wb.heap.size:=dm _ _ b0;have aj:Below w.heap.size W Wb:=by
    rw[←d];exact((sa w.heap.size W).alloc h.b.size _).grown O (by have:=h.b.size;simp;omega) fun k e=>by cases e;omega
   rw[d];have aI:w.heap.size+3<W.heap.size:=dm _ _ hu;have aL:rs.length≤1000000000:=by simpa using aA
   clear d m K ae O Y hl hk R ag h hu;obtain⟨c,f,own,B,c0,f0,c1,f1,hb⟩:=ad;change Hid _ at B sb;obtain⟨i0,hi,av,au,ar⟩:=nu (Xz).info;have aF:some (Wr.heap.size+1)≠v.ownBlock:=by
    rcases own.2 with ⟨rfl,_⟩|⟨g,cap,cur,rfl,_,hh,_⟩
    ·simp[Value.ownBlock]
    ·intro e;simp only[Value.ownBlock,dB]at e;subst e;rw[I]at hh;cases hh
   have aG:some Wr.heap.size≠v.ownBlock:=by
    rcases own.2 with ⟨rfl,_⟩|⟨g,cap,cur,rfl,_,hh,_⟩
    ·simp[Value.ownBlock]
    ·intro e;simp only[Value.ownBlock,dB]at e;subst e;rw[J]at hh;cases hh
   have q:∀k,k<w.heap.size+4→some k≠v.ownBlock:=fun k hk e=>by have:=(own.lt k e.symm).1;omega
   replace q:=φ q;have az:rs.length+1≤maxLen:=by simp only[maxLen];omega
   have ay:(rs.length+1)*32≤140737488355328:=by omega
   have ax:w.heap.size+4≤(Wb.alloc (.cells #[t,.slice A3 N c3] 215)).heap.size:=by simp;omega
   have U:∀(j:Nat) (u:Value),[(.int .i64 t:Value),.slice A3 N c3][j]?=some u→(Wb.alloc (.cells #[t,.slice A3 N c3] 215)).cell? ((⟨Wb.heap.size,0,none⟩:Addr).add j)=some u :=
    World.news_of_block (cs:=#[t,.slice A3 N c3]) (t:=215) (fr:=(0,0)) (ib Wb _)
   have ah:∀u∈ [(.int .i64 t:Value),.slice A3 N c3],u.oneCell'=true:=by simp[Value.oneCell']
   gi_wp2_with (gi_at_builtin;refine wpListIn_append_own _ rfl (.tmp 13) (.tmp 15) 211 rfl (w.heap.size+4) 215 i0 _ 2 32 underlying211 hi av au ar rfl (by decide) v rs.length (kM rs) rfl (own.alloc _) ⟨Wb.heap.size,0,none⟩ 1 1 [t,.slice A3 N c3] rfl rfl U ah az ay ax ?_;intro v' w1 z i _;obtain⟨g',aq,rfl⟩:=ownsRow_succ z;have x4:=i.cell (cW (cQ Wb _) c) (q.out _ (by show w.heap.size+2<_;omega));have y4:=(eC (a:=⟨w.heap.size+2,0,none⟩) (i.block (w.heap.size+2) (by simp;omega) (q.out _ (by omega)))).trans (fL (cQ Wb _) c f))
   have ak:=cQ Wb (.cells #[t,.slice A3 N c3] 215);have y:∀k,k<Wb.heap.size→some k≠v.ownBlock→w1.heap[k]?=Wb.heap[k]?:=fun k h1 h2=>(i.block k (by simp;omega) h2).trans (ky Wb _ _ h1)
   have Q:=own.alloc (.cells #[t,.slice A3 N c3] 215);obtain⟨nv,aB⟩:∃nv,(.slice (some ⟨g',0,none⟩) (rs.length+1) aq:Value)=nv:=⟨_,rfl⟩
   rw[aB]at z ⊢;have L:Below w.heap.size W w1:=(aj.alloc (cZ aa.size aj.size) _).grown i (by have:=hb.size;simp;omega) fun k e=>by have:=(own.lt k e).1;omega
   have aH:vI w (w1.setCell ⟨w.heap.size+2,0,none⟩ nv) (rs++ [Rc.mk t A3 N c3 vs]) nv:=by
    refine⟨fC w1 _ _ x4,by simp[y4],?_,?_,?_,?_,?_,?_,?_⟩
    ·rw[lO,cX];exact cV z (a:=⟨w.heap.size+2,0,none⟩) (by show w.heap.size+2<_;omega) _
    ·intro r hr;refine gK.set ?_ (a:=⟨w.heap.size+2,0,none⟩) (by show w.heap.size+2<_;omega) _;rcases eZ.1 hr with hr|hr
     ·exact((B.out r hr).below ak).grown Q (by decide) i
     ·obtain rfl:=ew.1 hr;exact(aw.below ak).grown Q (by decide) i
    ·exact gR _ ((cY (y w.heap.size (by have:=hb.size;omega) (q.out _ (by omega)))).trans c0) (by simp)
    ·simp only[mB];exact(eC (a:=⟨w.heap.size,0,none⟩) (y w.heap.size (by have:=hb.size;omega) (q.out _ (by omega)))).trans f0
    ·exact gR _ ((cY (a:=⟨w.heap.size+1,0,none⟩) (y (w.heap.size+1) (by omega) (q.out _ (by omega)))).trans c1) (by simp)
    ·simp only[mB];exact(eC (a:=⟨w.heap.size+1,0,none⟩) (y (w.heap.size+1) (by omega) (q.out _ (by omega)))).trans f1
    ·exact(aa.trans L).setCell (p:=⟨w.heap.size+2,0,none⟩) (by simp) _
   have X:(w1.setCell ⟨w.heap.size+2,0,none⟩ nv).heap[Wr.heap.size+1]?=some (.loop (LR .busy none)):=by
    rw[gm _ _ _ _ (by show _≠w.heap.size+2;omega),y _ (df.1 I).1 aF];exact I
   have aE:(w1.setCell ⟨w.heap.size+2,0,none⟩ nv).heap[Wr.heap.size]?=some (.deferred (some [])):=by
    rw[gm _ _ _ _ (by show _≠w.heap.size+2;omega),y _ (df.1 J).1 aG];exact J
   have ap:((w1.setCell ⟨w.heap.size+2,0,none⟩ nv).putObj (Wr.heap.size+1) (.loop (LR .ready none))).heap[w.heap.size+3]?=W.heap[w.heap.size+3]?:=by
    rw[World.putObj_heap_other (by omega),gm _ _ _ _ (by simp),y _ (by omega) (q.out _ (by omega)),sb.out _ (by omega) (by omega)]
   refine ⟨X,rfl,⟨⟨rs ++ [Rc.mk t A3 N c3 vs],nv,by simp,aH.put _ (by omega) X rfl⟩,World.putObj_heap_same (df.1 X).1,(World.putObj_heap_other (by omega)).trans aE⟩,
    cY (a:=⟨w.heap.size + 3,0,none⟩) ap,eC (a:=⟨w.heap.size + 3,0,none⟩) ap,?_⟩
   exact(L.setCell (p:=⟨w.heap.size+2,0,none⟩) (by simp) _).grown (grownBy_putObj' _ _ _) (by have h1:=aa.size;have h2:=L.size;simp;omega) fun k e=>by cases e;omega
end Go.Proofs.YtehimhbgakpenaaGreat
namespace Go.Proofs.YtehimhbgakpenaaGreat
open Go.RowKit Go.Proofs.Tryz
def Bc(w:World)(bs:List UInt8)(e:Ending)(w':World):Prop :=
 ∃v,e= .returned (.tuple #[v,(wN bs)])∧fh w' w v (uQ bs)∧cI w w'
abbrev z6:cH:=[.int .i64 0,.int .i64 0,.int .i64 0,false,.slice none 0 0,.slice none 0 0]
def St.wg{W w:World}{g:Nat}{bs:List (Nat× cH)}{rs:List (cG× cH)}{a0 a1 a2 a3 a4 a5:Value}(S:St W w ((g,[a0,a1,a2,a3,a4,a5]) :: bs) rs)(o s a:Int)(ov:Bool)(vA vB:Value)(hg:W≤g)(hd:∀x∈bs,x.1≠g) :
  St W ((((((w.setCell ⟨g,0,none⟩ (.int .i64 o)).setCell ⟨g,1,none⟩ (.int .i64 s)).setCell ⟨g,2,none⟩ (.int .i64 a)).setCell ⟨g,3,none⟩ (.bool ov)).setCell ⟨g,4,none⟩ vA).setCell ⟨g,5,none⟩ vB) ((g,[o,s,a,ov,vA,vB]) :: bs) rs :=
 (((((S.set 0 0 (.int .i64 o) rfl (by simp) hg hd _ rfl).set 0 1 (.int .i64 s) rfl (by simp) hg hd _ rfl).set 0 2 (.int .i64 a) rfl (by simp) hg hd _ rfl).set 0 3 (.bool ov) rfl (by simp) hg hd _ rfl).set 0 4 vA rfl (by simp) hg hd _ rfl).set 0 5 vB rfl (by simp) hg hd _ rfl
def jW{w:World}{base:Nat}{e:TypeId}{size:Nat}{v:Value}{n:Nat}{xs:cH}(h:w.ownsRow base e size v n xs){g:Nat}(hg:g<base)(u0 u1 u2 u3 u4 u5:Value) :
  ((((((w.setCell ⟨g,0,none⟩ u0).setCell ⟨g,1,none⟩ u1).setCell ⟨g,2,none⟩ u2).setCell ⟨g,3,none⟩ u3).setCell ⟨g,4,none⟩ u4).setCell ⟨g,5,none⟩ u5).ownsRow base e size v n xs :=
 cV (a:=⟨g,5,none⟩) (cV (a:=⟨g,4,none⟩) (cV (a:=⟨g,3,none⟩) (cV (a:=⟨g,2,none⟩) (cV (a:=⟨g,1,none⟩) (cV (a:=⟨g,0,none⟩) h hg _) hg _) hg _) hg _) hg _) hg _
def F6(A:cG)(n cap:Nat)(bs:List UInt8)(w:World)(hr:Bs w A bs)(hn:bs.length=n)(ak:n≤cap)(hm:cap≤maxLen)(aw:n≤100000) :
  Calls prog 115 #[.slice A n cap] w (Bc w bs):=by
 have S:St w (w.alloc (.cells #[i0,i0,i0,false,sn,sn] 41)) [(w,z6)] [(A,bs.map iZ)]:=((St.start w).read hr).new #[i0,i0,i0,false,sn,sn] 41;have CK:=Da A n cap bs _ (S.r 0 rfl) hn (by omega);have DK:=yL A n cap bs _ (S.r 0 rfl) hn ak hm (by omega);obtain⟨E,hE⟩:=ex (wN bs)
 obtain⟨V,hV⟩:=ex (uQ bs)
 have al:Bc w bs=fun e w'=>∃v,e= .returned (.tuple #[v,E])∧fh w' w v V∧cI w w':=by subst hE hV;rfl
 rw[al];clear al;change Hid _ at hE hV hn
 by_cases hc:Gw bs=false
 ·obtain rfl:E=5:=by rw[←hE.out,LC hc]
  obtain rfl:V=dT:=by rw[←hV.out,LB hc]
  rw[hc]at CK;clear DK hc;replace CK:=φ CK;have hb:=S.b;obtain⟨c0,c1,c2,c3,c4,c5⟩:=(S.box 0 rfl).b6;go_in;go_wp2_with fail;refine CK.out.mono ?_;rintro e w1 ⟨rfl,rfl⟩;go_wp2;exact dc (v:=.tuple #[ig 0 0 0 false none 0 0 none 0 0,.int .i64 5]) (by simp[results,results115,go_sem,c0,c1,c2,c3,c4,c5]) rfl ⟨_,rfl,fQ _ _,hb⟩
 have J:Gw bs=true:=by simpa using hc
 rw[J]at CK;clear hc;replace CK:=φ CK;replace J:=φ J;rcases hD:lH bs with _|l
 ·obtain rfl:E=4:=by rw[←hE.out,DY J.out (CC hD)]
  obtain rfl:V=dT:=by rw[←hV.out,wM (CC hD)]
  have ae:Hid (Ed bs=4):=by show _=_;unfold Ed;rw[hD];rfl
  clear hD;go_in;go_wp2_with fail;refine CK.out.mono ?_;rintro e w1 ⟨rfl,rfl⟩;go_wp2_with fail;refine DK.mono ?_;rintro e w2 ⟨v,rs,rfl,O,N,hd,Y⟩;rw[ae.out];replace hd:=φ hd;replace S:=S.call Y;obtain⟨c0,c1,c2,c3,c4,c5⟩:=(S.box 0 rfl).b6;obtain⟨f0,f1,f2,f3,f4,f5⟩:=(S.box 0 rfl).f6;go_wp2_with fail;have S9:=S.wg 0 0 0 false sn sn cj (by simp);exact dc (v:=.tuple #[ig 0 0 0 false none 0 0 none 0 0,.int .i64 4]) (by simp[results,results115,go_sem,c0,c1,c2,c3,c4,c5]) rfl ⟨_,rfl,fQ _ _,S9.b⟩
 have ae:Hid (Ed bs=0):=by show _=_;unfold Ed;rw[hD];rfl
 have ao:Hid (Qj bs=l):=by show _=_;unfold Qj;rw[hD];rfl
 have am:=(Gq _ bs cj l hD).2.2;rw[hn.out]at am;have I:=fun h=>Wc (l:=l) hD h
 replace I:=φ I;clear hD;go_in;go_wp2_with fail;refine CK.out.mono ?_;rintro e w1 ⟨rfl,rfl⟩;go_wp2_with fail;refine DK.mono ?_;rintro e w2 ⟨v,rs,rfl,O,N,hd,Y⟩;rw[ae.out];rw[ao.out]at hd;replace S:=S.call Y;have ai:rs.length=l.length:=by rw[←hd,dh]
 replace hd:=φ hd;have aq:rs.length≤100000:=by omega
 replace ai:=φ ai;obtain⟨A2,c2,rfl,ah,_,_⟩:=dN O;replace N:=φ N;clear DK CK Y O;go_wp2_with fail;generalize (w.alloc (.cells #[i0,i0,i0,false,sn,sn] 41)).heap.size=base at *;have Q0:=oG.start w2;generalize w2.alloc (.cells #[i0,i0,i0,false,sn,sn] 41)=w3 at *;go_loopw [27] (fun v27 wr=>∃(k:Nat) (x:La) (vA vB:Value),v27= .int .i64 k∧k≤rs.length∧Hid (x=kH dT ((rs.take k).map nK))∧x.adj.length≤k∧x.pre.length≤k∧oG w2 wr x vA vB) (fun v27 _=>rs.length - (intOf v27).toNat)
 case atStart=>exact⟨0,_,_,_,rfl,by omega,rfl,by simp[dT,kH],by simp[dT,kH],Q0⟩
 case round=>
  clear Q0;obtain⟨k,x,vA,vB,rfl,hk,hx,au,ar,Q⟩:=hrel
  by_cases hkn:k<rs.length
  ·obtain⟨b,off,rfl,c0,c1⟩:=DE (ah.below Q.b) hkn;have aa:(rs.take (k+1)).map nK=(rs.take k).map nK++ [nK rs[k]]:=by rw[cT hkn,ez];rfl
   have ab:=(N rs[k] (di hkn)).below Q.b;generalize rs[k]=r at c0 c1 aa ab;have T:=GW.start Q r ab 215 89;obtain⟨t,B,m,c,y⟩:=r;simp only at c0 c1 T;have d:Hid (∀x',x'=oS x (t,y)→x'=kH dT ((rs.take (k+1)).map nK)):=by
    rintro x' rfl;rw[aa,Am,hx.out];rfl
   clear aa ab
   by_cases h1:t=1
   ·subst h1;obtain⟨y1,i⟩:=ex (y.drop 2)
    obtain⟨y2,p⟩:=ex (y1.drop 4)
    obtain⟨y3,D⟩:=ex (y2.drop 2)
    obtain⟨y4,Z⟩:=ex (y3.drop 1)
    obtain⟨q0,g⟩:=ex (ux (y.take 2))
    obtain⟨q1,j⟩:=ex (ux (y1.take 4))
    obtain⟨q2,C⟩:=ex (ux (y2.take 2))
    obtain⟨q3,U⟩:=ex (ux (y3.take 1))
    obtain⟨q4,ac⟩:=ex (decide (q3=1))
    replace d:=d.out _ rfl;rw[oS,cR rfl]at d;simp only[i,p,D,g,j,C,U,ac]at d;have aB:((q3:Int)==1)=q4:=by rw[←ac,ga];simp;omega
    change Hid _ at d i p D Z g j C U;clear ac;go_wp2_with fail;generalize (wr.alloc (.cells #[.int .i64 1,.slice B m c] 215)).alloc (.cells #[.slice B m c] 89)=w4 at *;generalize wr.heap.size=gr at *;clear c0 c1 Q;refine (mi w4 2 2 rfl (by omega) q0 y1 g i T).mono ?_;clear T;rintro e w5 ⟨rfl,T⟩;go_wp2_with fail;refine (mi w5 4 4 rfl (by omega) q1 y2 j p T).mono ?_;clear T;rintro e w6 ⟨rfl,T⟩;go_wp2_with fail;refine (mi w6 2 2 rfl (by omega) q2 y3 C D T).mono ?_;clear T;rintro e w7 ⟨rfl,T⟩;go_wp2_with fail;refine (mi w7 1 1 rfl (by omega) q3 y4 U Z T).mono ?_;clear T;rintro e w8 ⟨rfl,T⟩;have Q:=T.acc;obtain⟨d0,d1,d2,d3⟩:=Q.box.b4;obtain⟨e0,e1,e2,e3⟩:=Q.box.f4;have Q2:=Q.head q0 q1 q2 q4;clear T Q;go_wp2;go_roundw
    case rel=>exact⟨k+1,_,vA,vB,by go_num,by omega,d,by simp only;omega,by simp only;omega,Q2⟩
    case measure=>simp[intOf];omega
   have aE:(t==1)=false:=by simpa using h1
   by_cases h2:t=2
   ·subst h2;obtain⟨y1,i⟩:=ex (y.drop 2)
    obtain⟨y2,p⟩:=ex (y1.drop 2)
    obtain⟨y3,D⟩:=ex (y2.drop 2)
    obtain⟨q0,g⟩:=ex (ux (y.take 2))
    obtain⟨q1,j⟩:=ex (ux (y1.take 2))
    obtain⟨q2,C⟩:=ex (ux (y2.take 2))
    replace d:=d.out _ rfl;rw[oS,cN (by simp),cR rfl]at d;simp only[i,p,g,j,C]at d;change Hid _ at d i p D g j C;clear h1;go_wp2_with fail;generalize (wr.alloc (.cells #[.int .i64 2,.slice B m c] 215)).alloc (.cells #[.slice B m c] 89)=w4 at *;generalize wr.heap.size=gr at *;clear c0 c1 Q
    ·have d4:=T.acc.box.c 4 rfl;have T0:=T.drew;have f1:x.adj.length+1≤maxLen:=by simp only[maxLen];omega
     have f2:(x.adj.length+1)*24≤140737488355328:=by omega
     have L:True:=trivial;have K:True:=trivial;have af:True:=trivial;clear T;go_region_law
      (first
       |(clear L;rw[cR (by simp[Region.wanted])];go_simp;refine (mi _ 2 2 rfl (by omega) q0 y1 g i T0).mono ?_;rintro e w5 ⟨rfl,T1⟩;have d5:=T1.acc.box.c 4 rfl;dsimp only)
       |(clear K;rw[cR (by simp[Region.wanted])];go_simp;refine (mi _ 2 2 rfl (by omega) q1 y2 j p T1).mono ?_;rintro e w6 ⟨rfl,T2⟩;have d6:=T2.acc.box.c 4 rfl;dsimp only)
       |(clear af;rw[cR (by simp[Region.wanted])];go_simp;refine (mi _ 2 2 rfl (by omega) q2 y3 C D T2).mono ?_;rintro e w7 ⟨rfl,T3⟩;have d7:=T3.acc.box.c 4 rfl;have ap:=(T3.acc.box.later (cQ w7 (.cells #[q0,q1,q2] 169))).c 4 rfl;dsimp only)
       | (have b7:=cQ w7 (.cells #[q0,q1,q2] 169); have o7:=dg T3.acc.oA b7; have s7:w2.heap.size + 1 ≤ (w7.alloc (.cells #[q0,q1,q2] 169)).heap.size:=(by have:=T3.acc.b.size; simp; omega); refine fJ (o:=⟨some 63,_,_,_,_,_⟩) rfl YJ (.tmp 54) (.tmp 62) (by rfl) (w2.heap.size + 1) (by rfl) o7 (m:=1) (by rfl) rfl (Rd.lit w7 #[q0,q1,q2] 169) (by simp [Value.oneCell']) f1 f2 s7 (x.adj.length + 1) _ rfl rfl ?_; intro v8 w8 q ad F _; obtain ⟨g8,k8,rfl,_,_,_⟩:=pk q (by omega); have P:vA.ownBlock ≠ some w2.heap.size:=(fun e=>(by have:=(o7.lt _ e).1; omega)); have R:=(T3.acc.box.later b7).kept F (fun e=>P e.symm) (by simp); have d8:=R.c 4 rfl; have e8:=R.f 4 rfl; have Q8:=T3.acc.Zi b7 ((q0:Int),q1,(q2:Int)) q F))
     all_goals
      go_wp2;go_roundw
      case rel=>exact⟨k+1,_,_,vB,by go_num,by omega,d,by simp;omega,by simp only;omega,Q8⟩
      case measure=>simp[intOf];omega
   have aD:(t==2)=false:=by simpa using h2
   by_cases h3:t=3
   ·subst h3;obtain⟨y1,i⟩:=ex (y.drop 4)
    obtain⟨y2,p⟩:=ex (y1.drop 1)
    obtain⟨q0,g⟩:=ex (ux (y.take 4))
    obtain⟨q1,j⟩:=ex (ux (y1.take 1))
    replace d:=d.out _ rfl;rw[oS,cN (by simp),cN (by simp),cR rfl]at d;simp only[i,g,j]at d;have aj:q0<4294967296:=by rw[←g];exact MX _ (by rw[eM];omega)
    change Hid _ at d i p g j;clear h1 h2;go_wp2_with fail;generalize (wr.alloc (.cells #[.int .i64 3,.slice B m c] 215)).alloc (.cells #[.slice B m c] 89)=w4 at *;generalize wr.heap.size=gr at *;clear c0 c1 Q
    ·have d4:=T.acc.box.c 5 rfl;have T0:=T.drew;have f1:x.pre.length+1≤maxLen:=by simp only[maxLen];omega
     have f2:(x.pre.length+1)*16≤140737488355328:=by omega
     have av:IntKind.u32.wrap (q0:Int)=(q0:Int):=by rw[QY];omega
     have L:True:=trivial;have K:True:=trivial;clear T;go_region_law
      (first
       |(clear L;rw[cR (by simp[Region.wanted])];go_simp;refine (mi _ 4 4 rfl (by omega) q0 y1 g i T0).mono ?_;rintro e w5 ⟨rfl,T1⟩;have d5:=T1.acc.box.c 5 rfl;dsimp only)
       |(clear K;rw[cR (by simp[Region.wanted])];go_simp;refine (mi _ 1 1 rfl (by omega) q1 y2 j p T1).mono ?_;rintro e w7 ⟨rfl,T3⟩;have d7:=T3.acc.box.c 5 rfl;have ap:=(T3.acc.box.later (cQ w7 (.cells #[.int .u32 (q0:Int),q1] 181))).c 5 rfl;dsimp only)
       | (have b7:=cQ w7 (.cells #[.int .u32 (q0:Int),q1] 181); have o7:=dg T3.acc.oB b7; have s7:w2.heap.size + 1 ≤ (w7.alloc (.cells #[.int .u32 (q0:Int),q1] 181)).heap.size:=(by have:=T3.acc.b.size; simp; omega); refine fJ (o:=⟨some 76,_,_,_,_,_⟩) rfl ZG (.tmp 68) (.tmp 75) (by rfl) (w2.heap.size + 1) (by rfl) o7 (m:=1) (by rfl) rfl (Rd.lit w7 #[.int .u32 (q0:Int),q1] 181) (by simp [Value.oneCell']) f1 f2 s7 (x.pre.length + 1) _ rfl rfl ?_; intro v8 w8 q ad F _; obtain ⟨g8,k8,rfl,_,_,_⟩:=pk q (by omega); have P:vB.ownBlock ≠ some w2.heap.size:=(fun e=>(by have:=(o7.lt _ e).1; omega)); have R:=(T3.acc.box.later b7).kept F (fun e=>P e.symm) (by simp); have d8:=R.c 5 rfl; have e8:=R.f 5 rfl; have Q8:=T3.acc.Zh b7 (q0,(q1:Int)) aj q F))
     all_goals
      go_wp2;go_roundw
      case rel=>exact⟨k+1,_,vA,_,by go_num,by omega,d,by simp only;omega,by simp;omega,Q8⟩
      case measure=>simp[intOf];omega
   have aC:(t==3)=false:=by simpa using h3
   replace d:=d.out _ rfl;rw[oS,cN h1,cN h2,cN h3]at d;replace d:=φ d;clear h1 h2 h3;go_wp2;go_roundw
   case rel=>exact⟨k+1,_,vA,vB,by go_num,by omega,d,by omega,by omega,T.acc⟩
   case measure=>simp[intOf];omega
  ·obtain rfl:k=rs.length:=by omega
   rw[dE,hd.out]at hx;obtain⟨A1,a1,rfl,W8,aA,ay⟩:=dN Q.oA;obtain⟨B1,b1,rfl,W7,az,ax⟩:=dN Q.oB;have LE:=pX x.o x.s x.a x.ov x.adj x.pre A1 x.adj.length a1 B1 x.pre.length b1 wr rfl rfl W8 W7 Q.u;rw[show(⟨x.o,x.s,x.a,x.ov,x.adj,x.pre⟩:La)=x from rfl]at LE;have S2:=S.call Q.b;obtain⟨c0,c1,c2,c3,c4,c5⟩:=Q.box.b6;clear ah N W8 W7
   by_cases hv:dS x
   rotate_left
   ·have H:¬sh bs (kH dT l):=fun h=>hv (hx▸h.1.1)
    obtain rfl:E=4:=by rw[←hE.out,DY J.out (I.out H)]
    obtain rfl:V=dT:=by rw[←hV.out,wM (I.out H)]
    have e1:qL x=1:=by unfold qL;rw[uZ hv];rfl
    rw[e1]at LE;clear e1 H;replace LE:=φ LE;replace hv:=φ hv;go_wp2_with fail;refine LE.out.mono ?_;rintro e w4 ⟨v4,rfl,G,X⟩;replace S2:=S2.call X;clear c0 c1 c2 c3 c4 c5 LE;obtain⟨c0,c1,c2,c3,c4,c5⟩:=(S2.box 0 rfl).b6;obtain⟨f0,f1,f2,f3,f4,f5⟩:=(S2.box 0 rfl).f6;go_wp2_with fail;have S9:=S2.wg 0 0 0 false sn sn cj (by simp);exact dc (v:=.tuple #[ig 0 0 0 false none 0 0 none 0 0,.int .i64 4]) (by simp[results,results115,go_sem,c0,c1,c2,c3,c4,c5]) rfl ⟨_,rfl,fQ _ _,S9.b⟩
   have e1:qL x=0:=by unfold qL;rw[nA hv];rfl
   have e2:mv x=gv x:=by unfold mv;rw[nA hv];rfl
   rw[e1,e2]at LE;clear e1 e2;replace LE:=φ LE;replace hv:=φ hv;go_wp2_with fail;refine LE.out.mono ?_;rintro e w4 ⟨v4,rfl,G,X⟩;replace S2:=S2.call X;replace Q:=Q.call X;obtain⟨A4,a4,rfl,ag,_,_⟩:=dN G;have BE:=II A4 A (gv x).length n a4 cap (gv x) bs w4 ag (S2.r 0 rfl) rfl hn;clear LE c0 c1 c2 c3 c4 c5 ag G;obtain⟨c0,c1,c2,c3,c4,c5⟩:=(S2.box 0 rfl).b6;have f0:=(S2.box 0 rfl).f6
   by_cases he:gv x=bs
   ·have M:sh bs x:=⟨⟨hv,Q.u⟩,he⟩
    obtain rfl:E=0:=by rw[←hE.out,(zY M).1]
    obtain rfl:V=x:=by rw[←hV.out,(zY M).2]
    rw[eo he]at BE;clear he M;replace BE:=φ BE;replace hx:=φ hx;have d0:=Q.box.b6;go_wp2_with fail;refine BE.out.mono ?_;rintro e w5 ⟨rfl,rfl⟩;go_wp2_with fail;have S9:=S2.wg V.o V.s V.a V.ov (.slice A1 V.adj.length a1) (.slice B1 V.pre.length b1) cj (by simp);have W:w<w2.heap.size+1:=by have:=S.b.size;omega
    refine dc (v:=.tuple #[ig V.o V.s V.a V.ov A1 V.adj.length a1 B1 V.pre.length b1,i0]) (by simp[results,results115,go_sem,c0,c1,c2,c3,c4,c5]) rfl ⟨_,rfl,⟨A1,a1,B1,b1,rfl,?_,?_,Q.u⟩,S9.b⟩
    ·exact dx (jW Q.oA W _ _ _ _ _ _) (iR W)
    ·exact dx (jW Q.oB W _ _ _ _ _ _) (iR W)
   ·have H:¬sh bs (kH dT l):=fun h=>he (hx▸h.2)
    obtain rfl:E=4:=by rw[←hE.out,DY J.out (I.out H)]
    obtain rfl:V=dT:=by rw[←hV.out,wM (I.out H)]
    rw[eI he]at BE;clear he H;replace BE:=φ BE;go_wp2_with fail;refine BE.out.mono ?_;rintro e w5 ⟨rfl,rfl⟩;go_wp2_with fail;have S9:=S2.wg 0 0 0 false sn sn cj (by simp);exact dc (v:=.tuple #[ig 0 0 0 false none 0 0 none 0 0,.int .i64 4]) (by simp[results,results115,go_sem,c0,c1,c2,c3,c4,c5]) rfl ⟨_,rfl,fQ _ _,S9.b⟩
noncomputable def HP(x:La):Int:=if vB x=true then 0 else 1
noncomputable def HO(x:La):La:=if vB x=true then iH x else dT
def yg(w:World)(x:La)(e:Ending)(w':World):Prop :=
 ∃v,e= .returned (.tuple #[v,(HP x)])∧fh w' w v (HO x)∧cI w w'
def Ik(w:World)(v:Value)(x:La)(hx:eU w v x):Calls prog 146 #[v] w (yg w x):=by
 obtain⟨A,c,B,d,rfl,rA,rB,h1,h2,h3,h4,hu⟩:=hx;have S:=((((St.start w).read rB).read rA).nw #[x.o,x.s,x.a,x.ov,.slice A x.adj.length c,.slice B x.pre.length d] 41 w).nw #[i0,i0,i0,false,sn,sn] 41 (w.heap.size+1);have V:=i7 x.o x.s x.a x.ov x.adj x.pre A _ c B _ d _ rfl rfl (S.r 0 rfl) (S.r 1 rfl) hu;rw[show(⟨x.o,x.s,x.a,x.ov,x.adj,x.pre⟩:La)=x from rfl]at V;unfold yg HP HO;obtain⟨c0,c1,c2,c3,c4,c5⟩:=(S.box 1 rfl).b6;clear rA rB;generalize x.adj.length=n at *;generalize x.pre.length=m at *;generalize vB x=b at *;replace V:=φ V;cases b
 all_goals
  go_in;go_wp2_with fail;refine V.out.mono ?_;rintro e w1 ⟨rfl,hb⟩;replace S:=S.call hb;clear c0 c2 c3 c4 c5;have c0:=(S.box 1 rfl).b2;have d0:=(S.box 0 rfl).b6;have f0:=(S.box 0 rfl).f6;go_wp2_with fail
 ·have S9:=S.wg 0 0 0 false sn sn (by simp) (by simp);exact dc (v:=.tuple #[ig 0 0 0 false none 0 0 none 0 0,.int .i64 1]) (by simp[results,results146,go_sem,d0]) rfl ⟨_,rfl,fQ _ _,S9.b⟩
 ·have S9:=S.wg x.o x.s 3600 false sn sn (by simp) (by simp);exact dc (v:=.tuple #[ig x.o x.s 3600 false none 0 0 none 0 0,i0]) (by simp[results,results146,go_sem,d0]) rfl ⟨_,rfl,K8 _ _ x,S9.b⟩
end Go.Proofs.YtehimhbgakpenaaGreat
