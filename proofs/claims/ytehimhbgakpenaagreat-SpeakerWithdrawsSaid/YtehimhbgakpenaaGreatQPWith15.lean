/-
  The texts Purge, one after the other.
-/
import Derived.Test.YtehimhbgakpenaaGreatQPWith9
import Derived.Test.YtehimhbgakpenaaGreatQPWith14
namespace Go.Proofs.YtehimhbgakpenaaGreat
set_option linter.unusedVariables false
open Go.RowKit
noncomputable def purgeE (x:La):Int:=if vB x = true then 0 else 1
noncomputable def purgeV (x:La):La:=if vB x = true then purgeX x else laZero
def PurgePost (w:World) (x:La) (e:Ending) (w':World):Prop :=
 ∃ v,e = .returned (.tuple #[v,.int .i64 (purgeE x)]) ∧ LaOwn w' w.heap.size v (purgeV x) ∧ Below w.heap.size w w'
set_option maxHeartbeats 1600000 in
theorem lpurge_any (w:World) (v:Value) (x:La) (hx:LaAt w v x):Calls Tryz.prog 146 #[v] w (PurgePost w x):=by
 obtain ⟨A,c,B,d,rfl,rA,rB,h1,h2,h3,h4,hu⟩:=hx
 have S:=((((St.start w).read rB).read rA).new' #[.int .i64 x.o,.int .i64 x.s,.int .i64 x.a,.bool x.ov,.slice A x.adj.length c,.slice B x.pre.length d] 41 w.heap.size _ rfl rfl).new' #[.int .i64 0,.int .i64 0,.int .i64 0,.bool false,.slice none 0 0,.slice none 0 0] 41 (w.heap.size + 1) _ (by simp) rfl
 have V:=valid_any x.o x.s x.a x.ov x.adj x.pre A _ c B _ d _ rfl rfl (S.r 0 rfl) (S.r 1 rfl) hu
 rw [show (⟨x.o,x.s,x.a,x.ov,x.adj,x.pre⟩:La) = x from rfl] at V
 unfold PurgePost purgeE purgeV
 have c0:=S.c 1 0 rfl rfl
 have c1:=S.c 1 1 rfl rfl
 have c2:=S.c 1 2 rfl rfl
 have c3:=S.c 1 3 rfl rfl
 have c4:=S.c 1 4 rfl rfl
 have c5:=S.c 1 5 rfl rfl
 clear rA rB
 generalize x.adj.length = n at *
 generalize x.pre.length = m at *
 generalize vB x = b at *
 replace V:=Lib.hid V
 cases b
 all_goals
  go_enter Tryz.func146,Tryz.ntmps146
  go_wp2_with fail
  (with_reducible refine V.out.mono ?_)
  rintro e w1 ⟨rfl,hb⟩
  replace S:=S.call hb
  clear c0 c1 c2 c3 c4 c5
  have c0:=S.c 1 0 rfl rfl
  have c1:=S.c 1 1 rfl rfl
  have d0:=S.c 0 0 rfl rfl
  have d1:=S.c 0 1 rfl rfl
  have d2:=S.c 0 2 rfl rfl
  have d3:=S.c 0 3 rfl rfl
  have d4:=S.c 0 4 rfl rfl
  have d5:=S.c 0 5 rfl rfl
  have f0:=S.f 0 0 rfl rfl
  have f1:=S.f 0 1 rfl rfl
  have f2:=S.f 0 2 rfl rfl
  have f3:=S.f 0 3 rfl rfl
  have f4:=S.f 0 4 rfl rfl
  have f5:=S.f 0 5 rfl rfl
  go_wp2_with fail
 ·have S9:=S.set6 0 0 0 false (.slice none 0 0) (.slice none 0 0) (by simp) (by simp)
  exact bodyPost_ret (v:=.tuple #[laV 0 0 0 false none 0 0 none 0 0,.int .i64 1]) (by simp [results,Tryz.results146,go_sem,d0,d1,d2,d3,d4,d5]) rfl ⟨_,rfl,laZero_own _ _,S9.b⟩
 ·have S9:=S.set6 x.o x.s 3600 false (.slice none 0 0) (.slice none 0 0) (by simp) (by simp)
  exact bodyPost_ret (v:=.tuple #[laV x.o x.s 3600 false none 0 0 none 0 0,.int .i64 0]) (by simp [results,Tryz.results146,go_sem,d0,d1,d2,d3,d4,d5]) rfl ⟨_,rfl,purge_own _ _ x,S9.b⟩
end Go.Proofs.YtehimhbgakpenaaGreat
