/-
  The texts SmR, SameR, Same, one after the other.
-/
import Derived.Test.YtehimhbgakpenaaGreatQPWith5
import Derived.Test.YtehimhbgakpenaaGreatQPWith6
namespace Go.Proofs.YtehimhbgakpenaaGreat
set_option linter.unusedVariables false
open Go.RowKit
def conB (x y:La):Bool:=(x.ov == y.ov) && (decide (x.adj = y.adj) && decide (x.pre = y.pre))
theorem conB_iff {x y:La}:conB x y = true ↔ x.ov = y.ov ∧ x.adj = y.adj ∧ x.pre = y.pre:=by simp [conB]
set_option maxRecDepth 100000 in
set_option maxHeartbeats 3200000 in
theorem contents_ex (o s a:Int) (ov:Bool) (adj:List Ad) (pre:List Pf) (A:Option Addr) (n c:Nat) (B:Option Addr) (m d:Nat)
  (o' s' a':Int) (ov':Bool) (adj':List Ad) (pre':List Pf) (A':Option Addr) (n' c':Nat) (B':Option Addr) (m' d':Nat) (w:World)
  (hn:adj.length = n) (hm:pre.length = m) (hA:Rd w A (adV adj)) (hB:Rd w B (pfV pre)) (hn':adj'.length = n') (hm':pre'.length = m') (hA':Rd w A' (adV adj')) (hB':Rd w B' (pfV pre'))
  (b1:n ≤ 9223372036854775807) (b2:m ≤ 9223372036854775807) (b3:n' ≤ 9223372036854775807) (b4:m' ≤ 9223372036854775807) :
  Calls Tryz.prog 108 #[laV o s a ov A n c B m d,laV o' s' a' ov' A' n' c' B' m' d'] w fun e w'=>e = .returned (.bool (conB ⟨o,s,a,ov,adj,pre⟩ ⟨o',s',a',ov',adj',pre'⟩)) ∧ Below w.heap.size w w':=by
 have S:=((((((St.start w).read hB').read hA').read hB).read hA).new' #[.int .i64 o,.int .i64 s,.int .i64 a,.bool ov,.slice A n c,.slice B m d] 41 w.heap.size _ rfl rfl).new' #[.int .i64 o',.int .i64 s',.int .i64 a',.bool ov',.slice A' n' c',.slice B' m' d'] 41 (w.heap.size + 1) _ (by simp) rfl
 clear hA hB hA' hB'
 obtain ⟨R,hR⟩:∃ R,conB ⟨o,s,a,ov,adj,pre⟩ ⟨o',s',a',ov',adj',pre'⟩ = R:=⟨_,rfl⟩
 rw [hR]
 have hF:(¬ (ov = ov' ∧ adj = adj' ∧ pre = pre')) → R = false:=fun h=>by
  rw [← hR]
  cases hb:conB ⟨o,s,a,ov,adj,pre⟩ ⟨o',s',a',ov',adj',pre'⟩ with
  | false=>rfl
  | true=>exact absurd (conB_iff.1 hb) h
 have hT:(ov = ov' ∧ adj = adj' ∧ pre = pre') → R = true:=fun h=>by rw [← hR]; exact conB_iff.2 h
 clear hR
 replace hF:=Lib.hid hF
 replace hT:=Lib.hid hT
 by_cases e1:ov = ov'
 rotate_left
 ·have hbb:=S.b
  have c3:=S.c 1 3 rfl rfl
  have d3:=S.c 0 3 rfl rfl
  obtain rfl:=hF.out (fun h=>e1 h.1)
  clear hn hn' hm hm'
  cases ov
  all_goals
   cases ov'
   all_goals
    first
    | exact absurd rfl e1
    | (clear e1
       go_enter Tryz.func108,Tryz.ntmps108
       go_wp2_with fail
       go_ret
       exact ⟨rfl,hbb⟩)
 subst e1
 have hbb:=S.b
 have c3:=S.c 1 3 rfl rfl
 have d3:=S.c 0 3 rfl rfl
 have c4:=S.c 1 4 rfl rfl
 have d4:=S.c 0 4 rfl rfl
 by_cases e2:n = n'
 rotate_left
 ·obtain rfl:=hF.out (fun h=>e2 (by rw [← hn,← hn',h.2.1]))
  have e2b:((n:Int) != (n':Int)) = true:=by simp; omega
  clear e2 hn hn' hm hm'
  go_enter Tryz.func108,Tryz.ntmps108
  go_wp2_with fail
  go_ret
  exact ⟨rfl,hbb⟩
 subst e2
 have c5:=S.c 1 5 rfl rfl
 have d5:=S.c 0 5 rfl rfl
 by_cases e3:m = m'
 rotate_left
 ·obtain rfl:=hF.out (fun h=>e3 (by rw [← hm,← hm',h.2.2]))
  have e3b:((m:Int) != (m':Int)) = true:=by simp; omega
  clear e3 hn hn' hm hm'
  go_enter Tryz.func108,Tryz.ntmps108
  go_wp2_with fail
  go_ret
  exact ⟨rfl,hbb⟩
 subst e3
 replace hn:=Lib.hid hn
 replace hm:=Lib.hid hm
 replace hn':=Lib.hid hn'
 replace hm':=Lib.hid hm'
 go_enter Tryz.func108,Tryz.ntmps108
 go_wp2_with fail
 clear hbb c3 d3 c4 d4 c5 d5
 generalize (w.alloc (.cells #[.int .i64 o,.int .i64 s,.int .i64 a,.bool ov,.slice A n c,.slice B m d] 41)).alloc (.cells #[.int .i64 o',.int .i64 s',.int .i64 a',.bool ov,.slice A' n c',.slice B' m d'] 41) = w1 at *
 go_loopw [5] (fun v5 wr=>∃ k:Nat,v5 = .int .i64 k ∧ k ≤ n ∧ Hid (adj.take k = adj'.take k) ∧ St w wr [(w.heap.size + 1,[.int .i64 o',.int .i64 s',.int .i64 a',.bool ov,.slice A' n c',.slice B' m d']),(w.heap.size,[.int .i64 o,.int .i64 s,.int .i64 a,.bool ov,.slice A n c,.slice B m d])] [(A,adV adj),(B,pfV pre),(A',adV adj'),(B',pfV pre')]) (fun v5 _=>n - (intOf v5).toNat)
 case atStart=>exact ⟨0,rfl,by omega,rfl,S⟩
 case round =>
  clear S
  obtain ⟨k,rfl,hk,htk,S⟩:=hrel
  have c4:=S.c 1 4 rfl rfl
  have d4:=S.c 0 4 rfl rfl
  by_cases hkn:k < n
  ·have hkl:k < adj.length:=by have:=hn.out; omega
   have hkl':k < adj'.length:=by have:=hn'.out; omega
   obtain ⟨b,off,rfl,hc⟩:=rd_ad (S.r 0 rfl) (by omega)
   obtain ⟨b',off',rfl,hc'⟩:=rd_ad (S.r 2 rfl) (by omega)
   obtain ⟨x0,x1,x2⟩:=hc k hkl
   obtain ⟨y0,y1,y2⟩:=hc' k hkl'
   have hs1:=List.take_succ_eq_append_getElem hkl
   have hs2:=List.take_succ_eq_append_getElem hkl'
   have hne:adj[k] ≠ adj'[k] → R = false:=fun h=>hF.out (fun h2=>h (by have:=h2.2.1; subst this; rfl))
   clear hc hc'
   generalize adj[k] = x at *
   generalize adj'[k] = y at *
   obtain ⟨p0,p1,p2⟩:=x
   obtain ⟨q0,q1,q2⟩:=y
   simp only at x0 x1 x2 y0 y1 y2
   have NE:=fun W=>neq_ad W (p0,p1,p2) (q0,q1,q2)
   have hG:=ad_guard
   by_cases e:(p0,p1,p2) = (q0,q1,q2)
   ·have htk2:Hid (adj.take (k + 1) = adj'.take (k + 1)):=by show _ = _; rw [hs1,hs2,htk.out,e]
    rw [decide_eq_true e] at NE
    clear hs1 hs2 hne e
    go_wp2_with fail
    go_quiet (fail)
    go_wp2_with fail
    go_round
    case rel=>exact ⟨k + 1,by go_num,by omega,htk2,S.drewN nq⟩
    case measure=>simp [intOf]; omega
   ·obtain rfl:=hne e
    rw [decide_eq_false e] at NE
    clear hs1 hs2 hne e
    go_wp2_with fail
    go_quiet (fail)
    go_wp2_with fail
    go_ret
    exact ⟨rfl,below_drewN S.b nq⟩
  ·obtain rfl:k = n:=by omega
   have hadj:adj = adj':=by
    have:=htk.out
    rwa [List.take_of_length_le (by have:=hn.out; omega),List.take_of_length_le (by have:=hn'.out; omega)] at this
   replace hadj:=Lib.hid hadj
   go_wp2_with fail
   clear c4 d4
   go_loopw [6] (fun v5 wr=>∃ i:Nat,v5 = .int .i64 i ∧ i ≤ m ∧ Hid (pre.take i = pre'.take i) ∧ St w wr [(w.heap.size + 1,[.int .i64 o',.int .i64 s',.int .i64 a',.bool ov,.slice A' k c',.slice B' m d']),(w.heap.size,[.int .i64 o,.int .i64 s,.int .i64 a,.bool ov,.slice A k c,.slice B m d])] [(A,adV adj),(B,pfV pre),(A',adV adj'),(B',pfV pre')]) (fun v5 _=>m - (intOf v5).toNat)
   case atStart=>exact ⟨0,rfl,by omega,rfl,S⟩
   case round =>
    clear S
    obtain ⟨i,rfl,hi,htk,S⟩:=hrel
    have c5:=S.c 1 5 rfl rfl
    have d5:=S.c 0 5 rfl rfl
    by_cases him:i < m
    ·have hkl:i < pre.length:=by have:=hm.out; omega
     have hkl':i < pre'.length:=by have:=hm'.out; omega
     obtain ⟨b,off,rfl,hc⟩:=rd_pf (S.r 1 rfl) (by omega)
     obtain ⟨b',off',rfl,hc'⟩:=rd_pf (S.r 3 rfl) (by omega)
     obtain ⟨x0,x1⟩:=hc i hkl
     obtain ⟨y0,y1⟩:=hc' i hkl'
     have hs1:=List.take_succ_eq_append_getElem hkl
     have hs2:=List.take_succ_eq_append_getElem hkl'
     have hne:pre[i] ≠ pre'[i] → R = false:=fun h=>hF.out (fun h2=>h (by have:=h2.2.2; subst this; rfl))
     clear hc hc'
     generalize pre[i] = x at *
     generalize pre'[i] = y at *
     obtain ⟨p0,p1⟩:=x
     obtain ⟨q0,q1⟩:=y
     simp only at x0 x1 y0 y1
     have NE:=fun W=>neq_pf W (p0,p1) (q0,q1)
     have hG:=pf_guard
     by_cases e:(p0,p1) = (q0,q1)
     ·have htk2:Hid (pre.take (i + 1) = pre'.take (i + 1)):=by show _ = _; rw [hs1,hs2,htk.out,e]
      rw [decide_eq_true e] at NE
      clear hs1 hs2 hne e
      go_wp2_with fail
      go_quiet (fail)
      go_wp2_with fail
      go_round
      case rel=>exact ⟨i + 1,by go_num,by omega,htk2,S.drewN nq⟩
      case measure=>simp [intOf]; omega
     ·obtain rfl:=hne e
      rw [decide_eq_false e] at NE
      clear hs1 hs2 hne e
      go_wp2_with fail
      go_quiet (fail)
      go_wp2_with fail
      go_ret
      exact ⟨rfl,below_drewN S.b nq⟩
    ·obtain rfl:i = m:=by omega
     have hpre:pre = pre':=by
      have:=htk.out
      rwa [List.take_of_length_le (by have:=hm.out; omega),List.take_of_length_le (by have:=hm'.out; omega)] at this
     obtain rfl:=hT.out (by first | exact ⟨rfl,hadj.out,hpre⟩ | exact ⟨trivial,hadj.out,hpre⟩)
     clear hpre
     go_wp2_with fail
     go_ret
     exact ⟨rfl,S.b⟩
theorem contents_any (w:World) (v u:Value) (x y:La) (hx:LaAt w v x) (hy:LaAt w u y):Calls Tryz.prog 108 #[v,u] w fun e w'=>e = .returned (.bool (conB x y)) ∧ Below w.heap.size w w':=by
 obtain ⟨A,c,B,d,rfl,rA,rB,h1,h2,h3,h4,_⟩:=hx
 obtain ⟨A',c',B',d',rfl,rA',rB',h1',h2',h3',h4',_⟩:=hy
 unfold maxLen at h2 h4 h2' h4'
 exact contents_ex _ _ _ _ _ _ _ _ _ _ _ _ _ _ _ _ _ _ _ _ _ _ _ _ w rfl rfl rA rB rfl rfl rA' rB' (by omega) (by omega) (by omega) (by omega)
end Go.Proofs.YtehimhbgakpenaaGreat

namespace Go.Proofs.YtehimhbgakpenaaGreat
set_option linter.unusedVariables false
open Go.RowKit
def sameB (x y:La):Bool:=(x.o == y.o) && ((x.s == y.s) && (((x.a == 3600) == (y.a == 3600)) && conB x y))
def purgeX (x:La):La:=⟨x.o,x.s,3600,false,[],[]⟩
set_option maxRecDepth 100000 in
set_option maxHeartbeats 3200000 in
theorem rsamela_any (w:World) (v u:Value) (x y:La) (hx:LaAt w v x) (hy:LaAt w u y):Calls Tryz.prog 62 #[v,u] w fun e w'=>e = .returned (.bool (sameB x y)) ∧ Below w.heap.size w w':=by
 obtain ⟨A,c,B,d,hv,_⟩:=id hx
 obtain ⟨A',c',B',d',hu,_⟩:=id hy
 subst hv hu
 have S:=((St.start w).new' #[.int .i64 x.o,.int .i64 x.s,.int .i64 x.a,.bool x.ov,.slice A x.adj.length c,.slice B x.pre.length d] 41 w.heap.size _ rfl rfl).new' #[.int .i64 y.o,.int .i64 y.s,.int .i64 y.a,.bool y.ov,.slice A' y.adj.length c',.slice B' y.pre.length d'] 41 (w.heap.size + 1) _ (by simp) rfl
 have CO:=contents_any _ _ _ x y (hx.below S.b) (hy.below S.b)
 have hbb:=S.b
 have c0:=S.c 1 0 rfl rfl
 have c1:=S.c 1 1 rfl rfl
 have c2:=S.c 1 2 rfl rfl
 have c3:=S.c 1 3 rfl rfl
 have c4:=S.c 1 4 rfl rfl
 have c5:=S.c 1 5 rfl rfl
 have d0:=S.c 0 0 rfl rfl
 have d1:=S.c 0 1 rfl rfl
 have d2:=S.c 0 2 rfl rfl
 have d3:=S.c 0 3 rfl rfl
 have d4:=S.c 0 4 rfl rfl
 have d5:=S.c 0 5 rfl rfl
 clear S hx hy
 unfold sameB
 generalize conB x y = cb at *
 generalize x.adj.length = n at *
 generalize x.pre.length = m at *
 generalize y.adj.length = n' at *
 generalize y.pre.length = m' at *
 replace CO:=Lib.hid CO
 rcases h1:(x.o == y.o) with _ | _
 ·go_enter Tryz.func62,Tryz.ntmps62
  go_wp2_with fail
  go_ret
  exact ⟨rfl,hbb⟩
 rcases h2:(x.s == y.s) with _ | _
 ·go_enter Tryz.func62,Tryz.ntmps62
  go_wp2_with fail
  go_ret
  exact ⟨rfl,hbb⟩
 rcases h3:(x.a == 3600) with _ | _
 ·rcases h4:(y.a == 3600) with _ | _
  ·go_enter Tryz.func62,Tryz.ntmps62
   go_wp2_with fail
   (with_reducible refine CO.out.mono ?_)
   rintro e w1 ⟨rfl,hb⟩
   cases cb
   all_goals
    go_wp2_with fail
    go_ret
    exact ⟨rfl,hbb.trans (hb.mono hbb.size)⟩
  ·go_enter Tryz.func62,Tryz.ntmps62
   go_wp2_with fail
   go_ret
   exact ⟨rfl,hbb⟩
 ·rcases h4:(y.a == 3600) with _ | _
  ·go_enter Tryz.func62,Tryz.ntmps62
   go_wp2_with fail
   go_ret
   exact ⟨rfl,hbb⟩
  ·go_enter Tryz.func62,Tryz.ntmps62
   go_wp2_with fail
   (with_reducible refine CO.out.mono ?_)
   rintro e w1 ⟨rfl,hb⟩
   cases cb
   all_goals
    go_wp2_with fail
    go_ret
    exact ⟨rfl,hbb.trans (hb.mono hbb.size)⟩
theorem purge_own (w:World) (base:Nat) (x:La):LaOwn w base (laV x.o x.s 3600 false none 0 0 none 0 0) (purgeX x) :=
 ⟨none,0,none,0,rfl,World.ownsRow_nil _ _ _ _,World.ownsRow_nil _ _ _ _,by simp [purgeX]⟩
end Go.Proofs.YtehimhbgakpenaaGreat

namespace Go.Proofs.YtehimhbgakpenaaGreat
set_option linter.unusedVariables false
open Go.RowKit
set_option maxRecDepth 100000 in
set_option maxHeartbeats 6400000 in
theorem lsame_any (w:World) (v u:Value) (x y:La) (hx:LaAt w v x) (hy:LaAt w u y):Calls Tryz.prog 122 #[v,u] w fun e w'=>e = .returned (.bool (sameB x y)) ∧ Below w.heap.size w w':=by
 obtain ⟨A,c,B,d,rfl,rA,rB,h1,h2,h3,h4,_⟩:=hx
 obtain ⟨A',c',B',d',rfl,rA',rB',h1',h2',h3',h4',_⟩:=hy
 unfold maxLen at h2 h4 h2' h4'
 have S:=((((((St.start w).read rB').read rA').read rB).read rA).new' #[.int .i64 x.o,.int .i64 x.s,.int .i64 x.a,.bool x.ov,.slice A x.adj.length c,.slice B x.pre.length d] 41 w.heap.size _ rfl rfl).new' #[.int .i64 y.o,.int .i64 y.s,.int .i64 y.a,.bool y.ov,.slice A' y.adj.length c',.slice B' y.pre.length d'] 41 (w.heap.size + 1) _ (by simp) rfl
 have SA:=fun W (hb:Below w.heap.size w W)=>sleq_ad W A A' _ c _ c' x.adj y.adj (rA.below hb) (rA'.below hb) rfl rfl (by omega)
 have SP:=fun W (hb:Below w.heap.size w W)=>sleq_pf W B B' _ d _ d' x.pre y.pre (rB.below hb) (rB'.below hb) rfl rfl (by omega)
 have c0:=S.c 1 0 rfl rfl
 have c1:=S.c 1 1 rfl rfl
 have c2:=S.c 1 2 rfl rfl
 have c3:=S.c 1 3 rfl rfl
 have c4:=S.c 1 4 rfl rfl
 have d0:=S.c 0 0 rfl rfl
 have d1:=S.c 0 1 rfl rfl
 have d2:=S.c 0 2 rfl rfl
 have d3:=S.c 0 3 rfl rfl
 have d4:=S.c 0 4 rfl rfl
 clear rA rB rA' rB'
 unfold sameB conB
 generalize decide (x.adj = y.adj) = ra at *
 generalize decide (x.pre = y.pre) = rp at *
 generalize x.adj.length = n at *
 generalize x.pre.length = m at *
 generalize y.adj.length = n' at *
 generalize y.pre.length = m' at *
 obtain ⟨o,s,a,ov,adj,pre⟩:=x
 obtain ⟨o',s',a',ov',adj',pre'⟩:=y
 simp only at *
 replace SA:=Lib.hid SA
 replace SP:=Lib.hid SP
 have hbb:=S.b
 by_cases h1:o = o'
 rotate_left
 ·have e1:(o == o') = false:=by simpa using h1
  have e2:(o != o') = true:=by simpa using h1
  rw [e1]
  clear h1
  go_enter Tryz.func122,Tryz.ntmps122
  go_wp2_with fail
  go_ret
  exact ⟨rfl,hbb⟩
 by_cases h2:s = s'
 rotate_left
 ·have e1:(s == s') = false:=by simpa using h2
  have e2:(s != s') = true:=by simpa using h2
  rw [e1]
  subst h1
  clear h2
  rw [Bool.false_and,Bool.and_false]
  go_enter Tryz.func122,Tryz.ntmps122
  go_wp2_with fail
  go_ret
  exact ⟨rfl,hbb⟩
 subst h1 h2
 rw [beq_self_eq_true,beq_self_eq_true,Bool.true_and,Bool.true_and]
 obtain ⟨pa,hpa⟩:∃ z,(a == 3600) = z:=⟨_,rfl⟩
 obtain ⟨pb,hpb⟩:∃ z,(a' == 3600) = z:=⟨_,rfl⟩
 rw [hpa,hpb]
 by_cases h3:ov = ov'
 rotate_left
 ·have e1:(ov == ov') = false:=by simpa using h3
  rw [e1,Bool.false_and,Bool.and_false]
  clear e1
  cases ov
  all_goals
   cases ov'
   all_goals
    first
    | exact absurd rfl h3
    | (clear h3
       go_enter Tryz.func122,Tryz.ntmps122
       go_wp2_with fail
       go_ret
       exact ⟨rfl,hbb⟩)
 subst h3
 rw [beq_self_eq_true,Bool.true_and]
 by_cases h4:pa = pb
 rotate_left
 ·have e1:(pa == pb) = false:=by simpa using h4
  rw [e1,Bool.false_and]
  clear e1
  cases pa
  all_goals
   cases pb
   all_goals
    first
    | exact absurd rfl h4
    | (clear h4
       go_enter Tryz.func122,Tryz.ntmps122
       go_wp2_with fail
       go_ret
       exact ⟨rfl,hbb⟩)
 subst h4
 rw [beq_self_eq_true,Bool.true_and]
 have SA1:=SA.out _ hbb
 replace SA1:=Lib.hid SA1
 go_enter Tryz.func122,Tryz.ntmps122
 go_wp2_with fail
 (with_reducible refine SA1.out.mono ?_)
 rintro e w2 ⟨rfl,hb⟩
 replace S:=S.call hb
 clear c0 c1 c2 c3 c4 d0 d1 d2 d3 d4 SA1
 have c5:=S.c 1 5 rfl rfl
 have d5:=S.c 0 5 rfl rfl
 have SP1:=SP.out _ S.b
 replace SP1:=Lib.hid SP1
 cases ra with
 | false =>
   go_wp2_with fail
   go_ret
   exact ⟨rfl,S.b⟩
 | true =>
   go_wp2_with fail
   (with_reducible refine SP1.out.mono ?_)
   rintro e w3 ⟨rfl,hb3⟩
   replace S:=S.call hb3
   clear c5 d5 SP1
   go_wp2_with fail
   go_ret
   exact ⟨rfl,S.b⟩
end Go.Proofs.YtehimhbgakpenaaGreat
