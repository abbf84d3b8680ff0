/-
  The texts Org, OrgM, OrgS, one after the other.
-/
import Derived.Test.YtehimhbgakpenaaGreatQPWith6
import Derived.Test.YtehimhbgakpenaaGreatQPWith20
import Derived.StillTailTactics
import Derived.Lib.QuietBelow
namespace Go.Proofs.YtehimhbgakpenaaGreat
set_option linter.unusedVariables false
open Go.RowKit
abbrev coV (ov:Bool) (A:Option Addr) (n c:Nat) (B:Option Addr) (m d:Nat):Value:=.agg #[.bool ov,.slice A n c,.slice B m d]
def CoAt (w:World) (v:Value) (x:La):Prop:=∃ A c B d,v = coV x.ov A x.adj.length c B x.pre.length d ∧ Rd w A (adV x.adj) ∧ Rd w B (pfV x.pre) ∧
 x.adj.length ≤ c ∧ c ≤ maxLen ∧ x.pre.length ≤ d ∧ d ≤ maxLen ∧ ∀ p ∈ x.pre,p.1 < 4294967296
def CoOwn (w:World) (base:Nat) (v:Value) (x:La):Prop:=∃ A c B d,v = coV x.ov A x.adj.length c B x.pre.length d ∧
 w.ownsRow base 169 3 (.slice A x.adj.length c) x.adj.length (adV x.adj) ∧ w.ownsRow base 181 2 (.slice B x.pre.length d) x.pre.length (pfV x.pre) ∧ ∀ p ∈ x.pre,p.1 < 4294967296
theorem CoAt.below {w w':World} {v:Value} {x:La} (h:CoAt w v x) (hb:Below w.heap.size w w'):CoAt w' v x:=by
 obtain ⟨A,c,B,d,rfl,h1,h2,h3⟩:=h
 exact ⟨A,c,B,d,rfl,h1.below hb,h2.below hb,h3⟩
theorem CoOwn.below {w w':World} {base:Nat} {v:Value} {x:La} (h:CoOwn w base v x) (hb:Below w.heap.size w w'):CoOwn w' base v x:=by
 obtain ⟨A,c,B,d,rfl,h1,h2,h3⟩:=h
 exact ⟨A,c,B,d,rfl,own_below h1 hb,own_below h2 hb,h3⟩
theorem own_read {w:World} {base:Nat} {e:TypeId} {size:Nat} {A:Option Addr} {n c:Nat} {xs:List Value} (h:w.ownsRow base e size (.slice A n c) n xs):Rd w A xs ∧ n ≤ c ∧ c ≤ maxLen ∧ ∀ ad,A = some ad → base ≤ ad.block:=by
 obtain ⟨A',c',e1,r,l,m⟩:=own_rd h
 simp only [Value.slice.injEq,true_and] at e1
 obtain ⟨rfl,rfl⟩:=e1
 refine ⟨r,l,m,fun ad e=>?_⟩
 rcases h.2 with ⟨e2,_⟩ | ⟨g,cap,cur,e2,hg,_⟩
 ·rw [e] at e2; cases e2
 ·rw [e] at e2
  simp only [Value.slice.injEq,Option.some.injEq] at e2
  obtain ⟨rfl,_⟩:=e2
  exact hg
theorem CoOwn.at {w:World} {base:Nat} {v:Value} {x:La} (h:CoOwn w base v x):CoAt w v x:=by
 obtain ⟨A,c,B,d,rfl,h1,h2,h3⟩:=h
 obtain ⟨r1,l1,m1,_⟩:=own_read h1
 obtain ⟨r2,l2,m2,_⟩:=own_read h2
 exact ⟨A,c,B,d,rfl,r1,r2,l1,m1,l2,m2,h3⟩
def num (o s a:Int) (x:La):La:=⟨o,s,a,x.ov,x.adj,x.pre⟩
theorem LaAt.co {w:World} {o s a:Int} {ov:Bool} {A:Option Addr} {n c:Nat} {B:Option Addr} {m d:Nat} {x:La} (h:LaAt w (laV o s a ov A n c B m d) x):CoAt w (coV ov A n c B m d) x:=by
 obtain ⟨A9,c9,B9,d9,e9,h⟩:=h
 simp only [laV,Value.agg.injEq,Array.mk.injEq,List.cons.injEq,Value.slice.injEq,Value.bool.injEq,and_true] at e9
 obtain ⟨_,_,_,rfl,⟨rfl,rfl,rfl⟩,rfl,rfl,rfl⟩:=e9
 exact ⟨_,_,_,_,rfl,h⟩
theorem CoAt.la {w:World} {ov:Bool} {A:Option Addr} {n c:Nat} {B:Option Addr} {m d:Nat} {x:La} (h:CoAt w (coV ov A n c B m d) x) (o s a:Int):LaAt w (laV o s a ov A n c B m d) (num o s a x):=by
 obtain ⟨A9,c9,B9,d9,e9,h⟩:=h
 simp only [coV,Value.agg.injEq,Array.mk.injEq,List.cons.injEq,Value.slice.injEq,Value.bool.injEq,and_true] at e9
 obtain ⟨rfl,⟨rfl,rfl,rfl⟩,rfl,rfl,rfl⟩:=e9
 exact ⟨_,_,_,_,rfl,h⟩
theorem CoAt.form {w:World} {v:Value} {x:La} (h:CoAt w v x):∃ A c B d,v = coV x.ov A x.adj.length c B x.pre.length d:=by
 obtain ⟨A,c,B,d,hv,_⟩:=h
 exact ⟨A,c,B,d,hv⟩
def OrAt (w:World) (g:Nat) (x:La) (mk:Bool):Prop:=∃ A c B d,Box w g [.bool x.ov,.slice A x.adj.length c,.slice B x.pre.length d,.int .i64 x.o,.int .i64 x.s,.bool mk,.int .i64 x.a] ∧
 Rd w A (adV x.adj) ∧ Rd w B (pfV x.pre) ∧ x.adj.length ≤ c ∧ c ≤ maxLen ∧ x.pre.length ≤ d ∧ d ≤ maxLen ∧ (∀ p ∈ x.pre,p.1 < 4294967296) ∧ (∀ ad,A = some ad → ad.block ≠ g) ∧ (∀ ad,B = some ad → ad.block ≠ g)
theorem OrAt.below {w w':World} {g:Nat} {x:La} {mk:Bool} (h:OrAt w g x mk) (hb:Below w.heap.size w w'):OrAt w' g x mk:=by
 obtain ⟨A,c,B,d,h0,h1,h2,h3⟩:=h
 exact ⟨A,c,B,d,h0.later hb,h1.below hb,h2.below hb,h3⟩
theorem OrAt.lt {w:World} {g:Nat} {x:La} {mk:Bool} (h:OrAt w g x mk):g < w.heap.size:=by
 obtain ⟨A,c,B,d,h0,_⟩:=h
 exact h0.lt (by simp)
theorem Rd.grown {w w':World} {A:Option Addr} {xs:List Value} {g:Nat} (h:Rd w A xs) (hg:w.grownBy w' (some g)) (hf:∀ ad,A = some ad → ad.block ≠ g):Rd w' A xs:=by
 intro hn
 obtain ⟨ad,e,hb⟩:=h.block hn
 obtain ⟨ad',e',hc⟩:=h hn
 rw [e] at e'
 injection e' with e'
 subst e'
 refine ⟨ad,e,fun j u hu=>?_⟩
 rw [World.cell?_of_block (hg.block _ (by rw [addr_add_block]; exact hb) (by rw [addr_add_block]; intro e2; injection e2 with e2; exact hf ad e e2))]
 exact hc j u hu
set_option maxRecDepth 100000 in
set_option maxHeartbeats 1600000 in
theorem coclone_any (w:World) (v:Value) (x:La) (h:CoAt w v x) (hb1:x.adj.length ≤ 1000000) (hb2:x.pre.length ≤ 1000000) :
  Calls Tryz.prog 129 #[v] w fun e w'=>∃ v',e = .returned v' ∧ CoOwn w' w.heap.size v' x ∧ Below w.heap.size w w':=by
 obtain ⟨A,c,B,d,rfl,rA,rB,h1,h2,h3,h4,hu⟩:=h
 have S:=((((St.start w).read rB).read rA).new' #[.bool x.ov,.slice A x.adj.length c,.slice B x.pre.length d] 164 w.heap.size _ rfl rfl).new' #[.bool false,.slice none 0 0,.slice none 0 0] 164 (w.heap.size + 1) _ (by simp) rfl
 have C1:=fun W (h:Rd W A (adV x.adj))=>clone_ad W A _ c x.adj h rfl hb1
 have C2:=fun W (h:Rd W B (pfV x.pre))=>clone_pf W B _ d x.pre h rfl hb2
 have hfin:∀ W' A' c' B' d',W'.ownsRow w.heap.size 169 3 (.slice A' x.adj.length c') x.adj.length (adV x.adj) → W'.ownsRow w.heap.size 181 2 (.slice B' x.pre.length d') x.pre.length (pfV x.pre) → CoOwn W' w.heap.size (coV x.ov A' x.adj.length c' B' x.pre.length d') x:=fun W' A' c' B' d' a b=>⟨A',c',B',d',rfl,a,b,hu⟩
 clear rA rB hu
 replace C1:=Lib.hid C1
 replace C2:=Lib.hid C2
 replace hfin:=Lib.hid hfin
 generalize x.adj.length = n at *
 generalize x.pre.length = m at *
 generalize x.ov = ov at *
 have a0:=S.c 1 0 rfl rfl
 have a1:=S.c 1 1 rfl rfl
 have a2:=S.c 1 2 rfl rfl
 go_enter Tryz.func129,Tryz.ntmps129
 go_wp2_with fail
 (with_reducible refine (C1.out _ (S.r 0 rfl)).mono ?_)
 rintro e w1 ⟨A1,c1,rfl,o1,hb⟩
 clear a0 a1 a2
 replace S:=S.call hb
 clear hb C1
 simp only [World.size_alloc] at o1
 have f1:=S.f 1 1 rfl rfl
 have a0:=S.c 1 0 rfl rfl
 have a1:=S.c 1 1 rfl rfl
 have a2:=S.c 1 2 rfl rfl
 have S2:=S.set 1 1 (.slice A1 n c1) rfl (by simp) (Nat.le_refl _) (by simp) _ rfl
 replace o1:=ownsRow_setCell_below (a:=⟨w.heap.size,1,none⟩) o1 (by simp only; omega) (.slice A1 n c1)
 have hsz:=S2.b.size
 have hlt:=S2.lt 0 rfl (by simp)
 go_wp2_with fail
 generalize w1.setCell ⟨w.heap.size,1,none⟩ (.slice A1 n c1) = w2 at *
 (with_reducible refine (C2.out _ (S2.r 1 rfl)).mono ?_)
 rintro e w3 ⟨B1,d1,rfl,o2,hb⟩
 clear a0 a1 a2
 clear f1 C2 S
 replace o1:=own_below o1 hb
 replace S2:=S2.call hb
 clear hb
 have f2:=S2.f 1 2 rfl rfl
 have e0:=S2.f 0 0 rfl rfl
 have e1:=S2.f 0 1 rfl rfl
 have e2:=S2.f 0 2 rfl rfl
 have a0:=S2.c 1 0 rfl rfl
 have a1:=S2.c 1 1 rfl rfl
 have a2:=S2.c 1 2 rfl rfl
 have b0:=S2.c 0 0 rfl rfl
 have b1:=S2.c 0 1 rfl rfl
 have b2:=S2.c 0 2 rfl rfl
 have S9:=(((S2.set 1 2 (.slice B1 m d1) rfl (by simp) (Nat.le_refl _) (by simp) _ rfl).set 0 0 (.bool ov) rfl (by simp) (by omega) (by simp) _ rfl).set 0 1 (.slice A1 n c1) rfl (by simp) (by omega) (by simp) _ rfl).set 0 2 (.slice B1 m d1) rfl (by simp) (by omega) (by simp) _ rfl
 have o3:=ownsRow_setCell_below (a:=⟨w.heap.size + 1,2,none⟩) (ownsRow_setCell_below (a:=⟨w.heap.size + 1,1,none⟩) (ownsRow_setCell_below (a:=⟨w.heap.size + 1,0,none⟩) (ownsRow_setCell_below (a:=⟨w.heap.size,2,none⟩) o1 (by simp only; omega) (.slice B1 m d1)) (by simp only; omega) (.bool ov)) (by simp only; omega) (.slice A1 n c1)) (by simp only; omega) (.slice B1 m d1)
 have o4:=ownsRow_setCell_below (a:=⟨w.heap.size + 1,2,none⟩) (ownsRow_setCell_below (a:=⟨w.heap.size + 1,1,none⟩) (ownsRow_setCell_below (a:=⟨w.heap.size + 1,0,none⟩) (ownsRow_setCell_below (a:=⟨w.heap.size,2,none⟩) o2 (by simp only; omega) (.slice B1 m d1)) (by simp only; omega) (.bool ov)) (by simp only; omega) (.slice A1 n c1)) (by simp only; omega) (.slice B1 m d1)
 have hf:=hfin.out _ _ _ _ _ (own_mono o3 (by omega)) (own_mono o4 (by omega))
 have hb9:=S9.b
 go_wp2_with fail
 exact bodyPost_ret (v:=coV ov A1 n c1 B1 m d1) (by simp [results,Tryz.results129,go_sem,b0,b1,b2]) rfl ⟨_,rfl,hf,hb9⟩
set_option maxRecDepth 100000 in
set_option maxHeartbeats 1600000 in
theorem coequal_any (w:World) (v u:Value) (x y:La) (hx:CoAt w v x) (hy:CoAt w u y) :
  Calls Tryz.prog 128 #[v,u] w fun e w'=>e = .returned (.bool (conB x y)) ∧ Below w.heap.size w w':=by
 obtain ⟨A,c,B,d,rfl,rA,rB,h1,h2,h3,h4,_⟩:=hx
 obtain ⟨A',c',B',d',rfl,rA',rB',h1',h2',h3',h4',_⟩:=hy
 unfold maxLen at h2 h4 h2' h4'
 have S:=((((((St.start w).read rB').read rA').read rB).read rA).new' #[.bool x.ov,.slice A x.adj.length c,.slice B x.pre.length d] 164 w.heap.size _ rfl rfl).new' #[.bool y.ov,.slice A' y.adj.length c',.slice B' y.pre.length d'] 164 (w.heap.size + 1) _ (by simp) rfl
 have C1:=fun W (h:Rd W A (adV x.adj)) (h':Rd W A' (adV y.adj))=>sleq_ad2 W A A' _ c _ c' x.adj y.adj h h' rfl rfl (by omega)
 have C2:=fun W (h:Rd W B (pfV x.pre)) (h':Rd W B' (pfV y.pre))=>sleq_pf W B B' _ d _ d' x.pre y.pre h h' rfl rfl (by omega)
 clear rA rB rA' rB'
 unfold conB
 generalize decide (x.adj = y.adj) = r1 at *
 generalize decide (x.pre = y.pre) = r2 at *
 replace C1:=Lib.hid C1
 replace C2:=Lib.hid C2
 generalize x.adj.length = n at *
 generalize x.pre.length = m at *
 generalize y.adj.length = n' at *
 generalize y.pre.length = m' at *
 generalize x.ov = ov at *
 generalize y.ov = ov' at *
 have a0:=S.c 1 0 rfl rfl
 have a1:=S.c 1 1 rfl rfl
 have a2:=S.c 1 2 rfl rfl
 have b0:=S.c 0 0 rfl rfl
 have b1:=S.c 0 1 rfl rfl
 have b2:=S.c 0 2 rfl rfl
 rcases ho:(ov == ov') with _ | _
 ·go_enter Tryz.func128,Tryz.ntmps128
  go_wp2_with fail
  go_ret
  exact ⟨rfl,S.b⟩
 ·go_enter Tryz.func128,Tryz.ntmps128
  go_wp2_with fail
  (with_reducible refine (C1.out _ (S.r 0 rfl) (S.r 2 rfl)).mono ?_)
  rintro e w1 ⟨rfl,hb⟩
  clear a0 a1 a2
  clear b0 b1 b2
  replace S:=S.call hb
  clear hb C1
  cases r1 with
  | false =>
    go_wp2_with fail
    go_ret
    exact ⟨rfl,S.b⟩
  | true =>
  have a0:=S.c 1 0 rfl rfl
  have a1:=S.c 1 1 rfl rfl
  have a2:=S.c 1 2 rfl rfl
  have b0:=S.c 0 0 rfl rfl
  have b1:=S.c 0 1 rfl rfl
  have b2:=S.c 0 2 rfl rfl
  go_wp2_with fail
  (with_reducible refine (C2.out _ (S.r 1 rfl) (S.r 3 rfl)).mono ?_)
  rintro e w2 ⟨rfl,hb⟩
  replace S:=S.call hb
  cases r2 with
  | false =>
    go_wp2_with fail
    go_ret
    exact ⟨rfl,S.b⟩
  | true =>
    go_wp2_with fail
    go_ret
    exact ⟨rfl,S.b⟩
def AdvPost (w:World) (x:La) (e:Ending) (w':World):Prop :=
 ∃ v,e = .returned v ∧ LaOwn w' w.heap.size v x ∧ Below w.heap.size w w'
set_option maxRecDepth 100000 in
set_option maxHeartbeats 1600000 in
theorem advert_any (w:World) (g:Nat) (v:Value) (x:La) (node s a:Int) (hn:w.cell? ⟨g,3,none⟩ = some (.int .i64 node)) (h:CoAt w v x) (hb1:x.adj.length ≤ 1000000) (hb2:x.pre.length ≤ 1000000) :
  Calls Tryz.prog 127 #[.pointer (some ⟨g,0,none⟩),v,.int .i64 s,.int .i64 a] w (AdvPost w (num node s a x)):=by
 obtain ⟨A,c,B,d,rfl⟩:=h.form
 have S:=((St.start w).new' #[.bool x.ov,.slice A x.adj.length c,.slice B x.pre.length d] 164 w.heap.size _ rfl rfl).new' #[.int .i64 0,.int .i64 0,.int .i64 0,.bool false,.slice none 0 0,.slice none 0 0] 41 (w.heap.size + 1) _ (by simp) rfl
 have C:=fun W hb=>coclone_any W _ x (h.below hb) hb1 hb2
 replace C:=Lib.hid C
 replace hn:Hid (∀ W,Below w.heap.size w W → W.cell? ⟨g,3,none⟩ = some (.int .i64 node)):=fun W hb=>cell_later hb hn
 have a0:=S.c 1 0 rfl rfl
 have a1:=S.c 1 1 rfl rfl
 have a2:=S.c 1 2 rfl rfl
 go_enter Tryz.func127,Tryz.ntmps127
 go_wp2_with fail
 (with_reducible refine (C.out _ S.b).mono ?_)
 rintro e w1 ⟨v1,rfl,hown,hb⟩
 clear a0 a1 a2
 have hlt:=S.lt 0 rfl (by simp)
 replace S:=S.call hb
 have hsz:=S.lt 0 rfl (by simp)
 obtain ⟨A1,c1,B1,d1,rfl,o1,o2,hu⟩:=hown
 clear hb C h
 have S2:=((S.set 1 0 (.bool x.ov) rfl (by simp) (Nat.le_refl _) (by simp) _ rfl).set 1 1 (.slice A1 x.adj.length c1) rfl (by simp) (Nat.le_refl _) (by simp) _ rfl).set 1 2 (.slice B1 x.pre.length d1) rfl (by simp) (Nat.le_refl _) (by simp) _ rfl
 have p1:=ownsRow_setCell_below (a:=⟨w.heap.size,2,none⟩) (ownsRow_setCell_below (a:=⟨w.heap.size,1,none⟩) (ownsRow_setCell_below (a:=⟨w.heap.size,0,none⟩) o1 (by simp only [World.size_alloc]; omega) (.bool x.ov)) (by simp only [World.size_alloc]; omega) (.slice A1 x.adj.length c1)) (by simp only [World.size_alloc]; omega) (.slice B1 x.pre.length d1)
 have p2:=ownsRow_setCell_below (a:=⟨w.heap.size,2,none⟩) (ownsRow_setCell_below (a:=⟨w.heap.size,1,none⟩) (ownsRow_setCell_below (a:=⟨w.heap.size,0,none⟩) o2 (by simp only [World.size_alloc]; omega) (.bool x.ov)) (by simp only [World.size_alloc]; omega) (.slice A1 x.adj.length c1)) (by simp only [World.size_alloc]; omega) (.slice B1 x.pre.length d1)
 simp only [World.size_alloc] at p1 p2 hlt
 have a0:=S.c 1 0 rfl rfl
 have a1:=S.c 1 1 rfl rfl
 have a2:=S.c 1 2 rfl rfl
 have f0:=S.f 1 0 rfl rfl
 have f1:=S.f 1 1 rfl rfl
 have f2:=S.f 1 2 rfl rfl
 go_upto_region 2 with fail
 clear a0 a1 a2
 clear f0 f1 f2
 clear o1 o2 S
 generalize World.setCell (World.setCell (World.setCell _ _ _) _ _) _ _ = w2 at *
 have hn2:=hn.out _ S2.b
 clear hn
 have a0:=S2.c 1 0 rfl rfl
 have a1:=S2.c 1 1 rfl rfl
 have a2:=S2.c 1 2 rfl rfl
 have b0:=S2.c 0 0 rfl rfl
 have b1:=S2.c 0 1 rfl rfl
 have b2:=S2.c 0 2 rfl rfl
 have b3:=S2.c 0 3 rfl rfl
 have b4:=S2.c 0 4 rfl rfl
 have b5:=S2.c 0 5 rfl rfl
 have f0:=S2.f 0 0 rfl rfl
 have f1:=S2.f 0 1 rfl rfl
 have f2:=S2.f 0 2 rfl rfl
 have f3:=S2.f 0 3 rfl rfl
 have f4:=S2.f 0 4 rfl rfl
 have f5:=S2.f 0 5 rfl rfl
 have hfin:Hid (AdvPost w (num node s a x) (.returned (laV node s a x.ov A1 x.adj.length c1 B1 x.pre.length d1)) ((((((w2.drew.setCell ⟨w.heap.size + 1,0,none⟩ (.int .i64 node)).setCell ⟨w.heap.size + 1,1,none⟩ (.int .i64 s)).setCell ⟨w.heap.size + 1,2,none⟩ (.int .i64 a)).setCell ⟨w.heap.size + 1,3,none⟩ (.bool x.ov)).setCell ⟨w.heap.size + 1,4,none⟩ (.slice A1 x.adj.length c1)).setCell ⟨w.heap.size + 1,5,none⟩ (.slice B1 x.pre.length d1))):=by
  have S9:=S2.drew.set6 node s a x.ov (.slice A1 x.adj.length c1) (.slice B1 x.pre.length d1) (by omega) (by simp)
  have q1:=own_set6 (w:=w2.drew) p1 (g:=w.heap.size + 1) (by omega) (.int .i64 node) (.int .i64 s) (.int .i64 a) (.bool x.ov) (.slice A1 x.adj.length c1) (.slice B1 x.pre.length d1)
  have q2:=own_set6 (w:=w2.drew) p2 (g:=w.heap.size + 1) (by omega) (.int .i64 node) (.int .i64 s) (.int .i64 a) (.bool x.ov) (.slice A1 x.adj.length c1) (.slice B1 x.pre.length d1)
  exact ⟨_,rfl,⟨_,_,_,_,rfl,own_mono q1 (by omega),own_mono q2 (by omega),hu⟩,S9.b⟩
 clear p1 p2
 go_still_tail 13,(by kernel_rfl)
 change wpList _ _ _ _ _ w2.drew
 clear a0 a1 a2
 clear b0 b1 b2 b3 b4 b5
 clear f0 f1 f2 f3 f4 f5
 replace S2:=S2.drew
 have b0:=S2.c 0 0 rfl rfl
 have b1:=S2.c 0 1 rfl rfl
 have b2:=S2.c 0 2 rfl rfl
 have b3:=S2.c 0 3 rfl rfl
 have b4:=S2.c 0 4 rfl rfl
 have b5:=S2.c 0 5 rfl rfl
 have f0:=S2.f 0 0 rfl rfl
 have f1:=S2.f 0 1 rfl rfl
 have f2:=S2.f 0 2 rfl rfl
 have f3:=S2.f 0 3 rfl rfl
 have f4:=S2.f 0 4 rfl rfl
 have f5:=S2.f 0 5 rfl rfl
 clear hn2
 generalize w2.drew = w3 at *
 go_wp2_with fail
 exact bodyPost_ret (v:=laV node s a x.ov A1 x.adj.length c1 B1 x.pre.length d1) (by simp [results,Tryz.results127,go_sem,b0,b1,b2,b3,b4,b5]) rfl hfin.out
end Go.Proofs.YtehimhbgakpenaaGreat

namespace Go.Proofs.YtehimhbgakpenaaGreat
set_option linter.unusedVariables false
open Go.RowKit Go.Sort
theorem below_grownBy {w w':World} (hb:Below w.heap.size w w') (row:Option Nat):w.grownBy w' row:=⟨hb.os,hb.tape,hb.output,hb.size,fun k hk _=>hb.block k hk⟩
section
variable {w w':World} {g:Nat} {x:La} {mk:Bool}
theorem OrAt.setS (h:OrAt w g x mk) (s:Int):OrAt (w.setCell ⟨g,4,none⟩ (.int .i64 s)) g { x with s:=s } mk:=by
 obtain ⟨A,c,B,d,h0,h1,h2,h3,h4,h5,h6,h7,h8,h9⟩:=h
 exact ⟨A,c,B,d,h0.set 4 (.int .i64 s) (by simp),h1.grown (grownBy_set _ _ _ _) h8,h2.grown (grownBy_set _ _ _ _) h9,h3,h4,h5,h6,h7,h8,h9⟩
theorem OrAt.setM (h:OrAt w g x mk) (m:Bool):OrAt (w.setCell ⟨g,5,none⟩ (.bool m)) g x m:=by
 obtain ⟨A,c,B,d,h0,h1,h2,h3,h4,h5,h6,h7,h8,h9⟩:=h
 exact ⟨A,c,B,d,h0.set 5 (.bool m) (by simp),h1.grown (grownBy_set _ _ _ _) h8,h2.grown (grownBy_set _ _ _ _) h9,h3,h4,h5,h6,h7,h8,h9⟩
theorem OrAt.setA (h:OrAt w g x mk) (a:Int):OrAt (w.setCell ⟨g,6,none⟩ (.int .i64 a)) g { x with a:=a } mk:=by
 obtain ⟨A,c,B,d,h0,h1,h2,h3,h4,h5,h6,h7,h8,h9⟩:=h
 exact ⟨A,c,B,d,h0.set 6 (.int .i64 a) (by simp),h1.grown (grownBy_set _ _ _ _) h8,h2.grown (grownBy_set _ _ _ _) h9,h3,h4,h5,h6,h7,h8,h9⟩
theorem OrAt.setC (h:OrAt w g x mk) {y:La} {A:Option Addr} {c:Nat} {B:Option Addr} {d base:Nat} (hown:CoOwn w base (coV y.ov A y.adj.length c B y.pre.length d) y) (hg:g < base) :
  OrAt (((w.setCell ⟨g,0,none⟩ (.bool y.ov)).setCell ⟨g,1,none⟩ (.slice A y.adj.length c)).setCell ⟨g,2,none⟩ (.slice B y.pre.length d)) g (num x.o x.s x.a y) mk:=by
 obtain ⟨A',c',B',d',h0,_⟩:=h
 obtain ⟨A9,c9,B9,d9,e9,o1,o2,hu⟩:=hown
 simp only [coV,Value.agg.injEq,Array.mk.injEq,List.cons.injEq,Value.slice.injEq,true_and,and_true] at e9
 obtain ⟨⟨rfl,rfl⟩,rfl,rfl⟩:=e9
 obtain ⟨r1,l1,m1,f1⟩:=own_read o1
 obtain ⟨r2,l2,m2,f2⟩:=own_read o2
 have k1:∀ ad,A = some ad → ad.block ≠ g:=fun ad e=>by have:=f1 ad e; omega
 have k2:∀ ad,B = some ad → ad.block ≠ g:=fun ad e=>by have:=f2 ad e; omega
 have hg3:=((grownBy_set w g 0 (.bool y.ov)).trans (grownBy_set _ g 1 (.slice A y.adj.length c))).trans (grownBy_set _ g 2 (.slice B y.pre.length d))
 exact ⟨A,c,B,d,((h0.set 0 (.bool y.ov) (by simp)).set 1 (.slice A y.adj.length c) (by simp)).set 2 (.slice B y.pre.length d) (by simp),r1.grown hg3 k1,r2.grown hg3 k2,l1,m1,l2,m2,hu,k1,k2⟩
theorem OrAt.co (h:OrAt w g x mk):∃ A c B d,Box w g [.bool x.ov,.slice A x.adj.length c,.slice B x.pre.length d,.int .i64 x.o,.int .i64 x.s,.bool mk,.int .i64 x.a] ∧ CoAt w (coV x.ov A x.adj.length c B x.pre.length d) x:=by
 obtain ⟨A,c,B,d,h0,h1,h2,h3,h4,h5,h6,h7,_⟩:=h
 exact ⟨A,c,B,d,h0,A,c,B,d,rfl,h1,h2,h3,h4,h5,h6,h7⟩
theorem OrAt.len (h:OrAt w g x mk):∀ p ∈ x.pre,p.1 < 4294967296:=by
 obtain ⟨A,c,B,d,h0,h1,h2,h3,h4,h5,h6,h7,_⟩:=h
 exact h7
end
def Avoid (w:World) (g b:Nat):Prop:=∀ A n c,0 < n → (w.cell? ⟨g,1,none⟩ = some (.slice A n c) ∨ w.cell? ⟨g,2,none⟩ = some (.slice A n c)) → ∀ ad,A = some ad → ad.block ≠ b
def Ty (w:World) (k:Nat) (T:TypeId):Prop:=∃ cur fr,w.heap[k]? = some (.cells cur T fr)
def TyPres (w w':World):Prop:=∀ k T,Ty w k T → Ty w' k T
theorem TyPres.refl (w:World):TyPres w w:=fun _ _ h=>h
theorem TyPres.trans {w w1 w2:World} (h:TyPres w w1) (k:TyPres w1 w2):TyPres w w2:=fun b T e=>k b T (h b T e)
theorem TyPres.below {w w':World} (hb:Below w.heap.size w w'):TyPres w w':=fun k T ⟨cur,fr,e⟩=>⟨cur,fr,(hb.block k (Array.getElem?_eq_some_iff.1 e).1).trans e⟩
theorem TyPres.set (w:World) (p:Addr) (u:Value):TyPres w (w.setCell p u):=fun k T ⟨cur,fr,e⟩=>by
 by_cases h:k = p.block
 ·subst h
  exact ⟨_,fr,by simp [World.setCell,Array.getElem?_modify,e]; rfl⟩
 ·exact ⟨cur,fr,(heap_setCell_other w p k u h).trans e⟩
def TyO (w:World) (g:Nat):Prop:=(∀ A n c,0 < n → w.cell? ⟨g,1,none⟩ = some (.slice A n c) → ∀ ad,A = some ad → Ty w ad.block 169) ∧ (∀ A n c,0 < n → w.cell? ⟨g,2,none⟩ = some (.slice A n c) → ∀ ad,A = some ad → Ty w ad.block 181)
theorem TyO.of_cells {w w':World} {g:Nat} (h:TyO w g) (h1:w'.cell? ⟨g,1,none⟩ = w.cell? ⟨g,1,none⟩) (h2:w'.cell? ⟨g,2,none⟩ = w.cell? ⟨g,2,none⟩) (hp:TyPres w w'):TyO w' g :=
 ⟨fun A n c hn hc ad ha=>hp _ _ (h.1 A n c hn (by rw [← h1]; exact hc) ad ha),fun A n c hn hc ad ha=>hp _ _ (h.2 A n c hn (by rw [← h2]; exact hc) ad ha)⟩
def Keeps (w w':World) (g:Nat):Prop:=(∀ b,b < w.heap.size → Avoid w g b → Avoid w' g b) ∧ TyPres w w' ∧ (TyO w g → TyO w' g)
theorem Keeps.of_cells {w w':World} {g:Nat} (h1:w'.cell? ⟨g,1,none⟩ = w.cell? ⟨g,1,none⟩) (h2:w'.cell? ⟨g,2,none⟩ = w.cell? ⟨g,2,none⟩) (hp:TyPres w w'):Keeps w w' g:=⟨fun b _ h A n c hn hc=>h A n c hn (by rw [h1,h2] at hc; exact hc),hp,fun h=>h.of_cells h1 h2 hp⟩
theorem Keeps.trans {w w1 w2:World} {g:Nat} (h:Keeps w w1 g) (hs:w.heap.size ≤ w1.heap.size) (k:Keeps w1 w2 g):Keeps w w2 g:=⟨fun b hb ha=>k.1 b (Nat.lt_of_lt_of_le hb hs) (h.1 b hb ha),h.2.1.trans k.2.1,fun e=>k.2.2 (h.2.2 e)⟩
theorem Keeps.below {w w':World} {g:Nat} (hg:g < w.heap.size) (hb:Below w.heap.size w w'):Keeps w w' g:=.of_cells (hb.cell (p:=⟨g,1,none⟩) hg) (hb.cell (p:=⟨g,2,none⟩) hg) (TyPres.below hb)
theorem Keeps.set {w:World} {g:Nat} {j:Nat} (u:Value) (h1:j ≠ 1) (h2:j ≠ 2):Keeps w (w.setCell ⟨g,j,none⟩ u) g:=.of_cells (cell_far u (by intro e; injection e with _ e2; exact h1 e2)) (cell_far u (by intro e; injection e with _ e2; exact h2 e2)) (TyPres.set _ _ _)
theorem Keeps.far {w:World} {g b':Nat} (j:Nat) (u:Value) (h:b' ≠ g):Keeps w (w.setCell ⟨b',j,none⟩ u) g:=.of_cells (cell_far u (by intro e; injection e with e; exact h e)) (cell_far u (by intro e; injection e with e; exact h e)) (TyPres.set _ _ _)
theorem Rd.grown' {w w':World} {A:Option Addr} {xs:List Value} {g:Nat} (h:Rd w A xs) (hg:w.grownBy w' (some g)) (hf:0 < xs.length → ∀ ad,A = some ad → ad.block ≠ g):Rd w' A xs:=fun hn=>(h.grown hg (hf hn)) hn
theorem Avoid.new {w:World} {g:Nat} {x:La} {mk:Bool} (h:OrAt w g x mk) {b:Nat} (hb:w.heap.size ≤ b):Avoid w g b:=by
 obtain ⟨A,c,B,d,h0,h1,h2,_⟩:=h
 intro A' n' c' hn hc ad hA
 rw [h0.c 1 rfl,h0.c 2 rfl] at hc
 simp only [Option.some.injEq,Value.slice.injEq] at hc
 rcases hc with ⟨rfl,rfl,_⟩ | ⟨rfl,rfl,_⟩
 ·obtain ⟨ad',e,hb'⟩:=h1.block (by rw [adV_len]; omega)
  rw [hA] at e
  injection e with e
  subst e
  omega
 ·obtain ⟨ad',e,hb'⟩:=h2.block (by rw [pfV_len]; omega)
  rw [hA] at e
  injection e with e
  subst e
  omega
theorem OrAt.far {w:World} {g:Nat} {x:La} {mk:Bool} (h:OrAt w g x mk) {b:Nat} (j:Nat) (u:Value) (hb:b ≠ g) (ha:Avoid w g b):OrAt (w.setCell ⟨b,j,none⟩ u) g x mk:=by
 obtain ⟨A,c,B,d,h0,h1,h2,h3,h4,h5,h6,h7,h8,h9⟩:=h
 exact ⟨A,c,B,d,h0.far u (fun e=>hb e),h1.grown' (grownBy_set _ _ _ _) (fun hn=>ha A _ c (by rw [adV_len] at hn; omega) (.inl (h0.c 1 rfl))),h2.grown' (grownBy_set _ _ _ _) (fun hn=>ha B _ d (by rw [pfV_len] at hn; omega) (.inr (h0.c 2 rfl))),h3,h4,h5,h6,h7,h8,h9⟩
theorem Keeps.fresh {W w:World} {g:Nat} {cs:List Value} (h0:Box w g cs) (hl:cs.length = 7) {y:La} {A:Option Addr} {c:Nat} {B:Option Addr} {d base:Nat} (hown:CoOwn w base (coV y.ov A y.adj.length c B y.pre.length d) y) (hs:W.heap.size ≤ base) (hp:TyPres W w) :
  Keeps W (((w.setCell ⟨g,0,none⟩ (.bool y.ov)).setCell ⟨g,1,none⟩ (.slice A y.adj.length c)).setCell ⟨g,2,none⟩ (.slice B y.pre.length d)) g:=by
 obtain ⟨A9,c9,B9,d9,e9,o1,o2,hu⟩:=hown
 simp only [coV,Value.agg.injEq,Array.mk.injEq,List.cons.injEq,Value.slice.injEq,true_and,and_true] at e9
 obtain ⟨⟨rfl,rfl⟩,rfl,rfl⟩:=e9
 have hbx:=((h0.set 0 (.bool y.ov) (by omega)).set 1 (.slice A y.adj.length c) (by simp; omega)).set 2 (.slice B y.pre.length d) (by simp; omega)
 have k1:=hbx.c 1 (u:=.slice A y.adj.length c) (by simp [List.getElem?_set]; omega)
 have k2:=hbx.c 2 (u:=.slice B y.pre.length d) (by simp [List.getElem?_set]; omega)
 have h3:TyPres w (((w.setCell ⟨g,0,none⟩ (.bool y.ov)).setCell ⟨g,1,none⟩ (.slice A y.adj.length c)).setCell ⟨g,2,none⟩ (.slice B y.pre.length d)):=((TyPres.set _ _ _).trans (TyPres.set _ _ _)).trans (TyPres.set _ _ _)
 have own_t:∀ {e:TypeId} {sz:Nat} {A:Option Addr} {n c:Nat} {xs:List Value},w.ownsRow base e sz (.slice A n c) n xs → 0 < n → ∀ ad,A = some ad → Ty w ad.block e:=fun {e sz A n c xs} h hn ad ha=>by
  rcases h.2 with ⟨h2,h3⟩ | ⟨g,cap,cur,h2,hgb,hh,r⟩
  ·omega
  ·injection h2 with h2 _ _
   rw [ha] at h2
   injection h2 with h2
   subst h2
   exact ⟨_,_,hh⟩
 refine ⟨fun b hb _ A' n' c' _ hc ad hA=>?_,hp.trans h3,fun _=>⟨fun A' n' c' hn hc ad hA=>?_,fun A' n' c' hn hc ad hA=>?_⟩⟩
 ·rw [k1,k2] at hc
  simp only [Option.some.injEq,Value.slice.injEq] at hc
  rcases hc with ⟨rfl,_⟩ | ⟨rfl,_⟩
  ·have:=(own_read o1).2.2.2 ad hA; omega
  ·have:=(own_read o2).2.2.2 ad hA; omega
 ·rw [k1] at hc
  simp only [Option.some.injEq,Value.slice.injEq] at hc
  obtain ⟨rfl,rfl,rfl⟩:=hc
  exact h3 _ _ (own_t o1 hn ad hA)
 ·rw [k2] at hc
  simp only [Option.some.injEq,Value.slice.injEq] at hc
  obtain ⟨rfl,rfl,rfl⟩:=hc
  exact h3 _ _ (own_t o2 hn ad hA)
def MakePost (w:World) (g:Nat) (x:La) (mk:Bool) (e:Ending) (w':World):Prop:=e = .returned (.tuple #[]) ∧ OrAt w' g x mk ∧ w.grownBy w' (some g)
def MakeKeep (w:World) (g:Nat) (x:La) (mk:Bool) (e:Ending) (w':World):Prop:=MakePost w g x mk e w' ∧ Keeps w w' g
set_option maxRecDepth 100000 in
set_option maxHeartbeats 1600000 in
theorem make_keep (w:World) (g:Nat) (x:La) (mk:Bool) (h:OrAt w g x mk) (h0:-1 ≤ x.s) (h1:x.s ≤ 1073741824) :
  Calls Tryz.prog 130 #[.pointer (some ⟨g,0,none⟩)] w (MakeKeep w g { x with s:=x.s + 1,a:=0 } true):=by
 have hfin:Hid (MakePost w g { x with s:=x.s + 1,a:=0 } true (.returned (.tuple #[])) (((w.setCell ⟨g,4,none⟩ (.int .i64 (x.s + 1))).setCell ⟨g,5,none⟩ (.bool true)).setCell ⟨g,6,none⟩ (.int .i64 0)) ∧ Keeps w (((w.setCell ⟨g,4,none⟩ (.int .i64 (x.s + 1))).setCell ⟨g,5,none⟩ (.bool true)).setCell ⟨g,6,none⟩ (.int .i64 0)) g) :=
  ⟨⟨rfl,((h.setS (x.s + 1)).setM true).setA 0,((grownBy_set w g 4 _).trans (grownBy_set _ g 5 _)).trans (grownBy_set _ g 6 _)⟩,((Keeps.set _ (by omega) (by omega)).trans (by simp) (Keeps.set _ (by omega) (by omega))).trans (by simp) (Keeps.set _ (by omega) (by omega))⟩
 obtain ⟨A,c,B,d,b,_⟩:=h
 have c4:=b.c 4 rfl
 have c5:=b.c 5 rfl
 have c6:=b.c 6 rfl
 have f4:=b.f 4 rfl
 have f5:=b.f 5 rfl
 have f6:=b.f 6 rfl
 clear b
 generalize x.s = s at *
 go_enter Tryz.func130,Tryz.ntmps130
 go_wp2_with fail
 exact bodyPost_ret (v:=.tuple #[]) (by simp [results,Tryz.results130,go_sem]) rfl hfin.out
def curX (x:La) (mk:Bool):La:=if mk = true then x else laZero
def CurPost (w:World) (x:La) (mk:Bool) (e:Ending) (w':World):Prop :=
 ∃ v,e = .returned (.tuple #[v,.bool mk]) ∧ LaOwn w' w.heap.size v (curX x mk) ∧ Below w.heap.size w w'
set_option maxRecDepth 100000 in
set_option maxHeartbeats 1600000 in
theorem current_any (w:World) (g:Nat) (x:La) (mk:Bool) (h:OrAt w g x mk) (hb1:x.adj.length ≤ 1000000) (hb2:x.pre.length ≤ 1000000) :
  Calls Tryz.prog 131 #[.pointer (some ⟨g,0,none⟩)] w (CurPost w x mk):=by
 obtain ⟨A,c,B,d,b,hco⟩:=h.co
 have S:=(St.start w).new' #[.int .i64 0,.int .i64 0,.int .i64 0,.bool false,.slice none 0 0,.slice none 0 0] 41 w.heap.size _ rfl rfl
 have bb:=b.later S.b
 have hlt:=b.lt (by simp)
 have V:=fun W (hb:Below w.heap.size w W)=>advert_any W g _ x x.o x.s x.a ((b.later hb).c 3 rfl) (hco.below hb) hb1 hb2
 rw [show num x.o x.s x.a x = x from rfl] at V
 replace V:=Lib.hid V
 have c0:=bb.c 0 rfl
 have c1:=bb.c 1 rfl
 have c2:=bb.c 2 rfl
 have c4:=bb.c 4 rfl
 have c5:=bb.c 5 rfl
 have c6:=bb.c 6 rfl
 clear bb b hco h
 have r0:=S.c 0 0 rfl rfl
 have r1:=S.c 0 1 rfl rfl
 have r2:=S.c 0 2 rfl rfl
 have r3:=S.c 0 3 rfl rfl
 have r4:=S.c 0 4 rfl rfl
 have r5:=S.c 0 5 rfl rfl
 have f0:=S.f 0 0 rfl rfl
 have f1:=S.f 0 1 rfl rfl
 have f2:=S.f 0 2 rfl rfl
 have f3:=S.f 0 3 rfl rfl
 have f4:=S.f 0 4 rfl rfl
 have f5:=S.f 0 5 rfl rfl
 cases mk with
 | false =>
   have hfin:Hid (CurPost w x false (.returned (.tuple #[laV 0 0 0 false none 0 0 none 0 0,.bool false])) (w.alloc (.cells #[.int .i64 0,.int .i64 0,.int .i64 0,.bool false,.slice none 0 0,.slice none 0 0] 41))):=⟨_,rfl,laZero_own _ _,S.b⟩
   go_enter Tryz.func131,Tryz.ntmps131
   go_wp2_with fail
   exact bodyPost_ret (v:=.tuple #[laV 0 0 0 false none 0 0 none 0 0,.bool false]) (by simp [results,Tryz.results131,go_sem,r0,r1,r2,r3,r4,r5]) rfl hfin.out
 | true =>
   go_enter Tryz.func131,Tryz.ntmps131
   go_wp2_with fail
   have T:=S.drew
   go_region_with (go_at_call 127; (with_reducible refine (V.out _ T.b).mono ?_); rintro e w1 ⟨v1,rfl,hown,hb⟩; obtain ⟨A1,c1',B1,d1,rfl,o1,o2,hu⟩:=hown; have T1:=T.call hb; have r0:=T1.c 0 0 rfl rfl; have r1:=T1.c 0 1 rfl rfl; have r2:=T1.c 0 2 rfl rfl; have r3:=T1.c 0 3 rfl rfl; have r4:=T1.c 0 4 rfl rfl; have r5:=T1.c 0 5 rfl rfl; have f0:=T1.f 0 0 rfl rfl; have f1:=T1.f 0 1 rfl rfl; have f2:=T1.f 0 2 rfl rfl; have f3:=T1.f 0 3 rfl rfl; have f4:=T1.f 0 4 rfl rfl; have f5:=T1.f 0 5 rfl rfl)
   all_goals
    have S9:=T1.set6 x.o x.s x.a x.ov (.slice A1 x.adj.length c1') (.slice B1 x.pre.length d1) (Nat.le_refl _) (by simp)
    have q1:=own_set6 o1 (g:=w.heap.size) (by simp) (.int .i64 x.o) (.int .i64 x.s) (.int .i64 x.a) (.bool x.ov) (.slice A1 x.adj.length c1') (.slice B1 x.pre.length d1)
    have q2:=own_set6 o2 (g:=w.heap.size) (by simp) (.int .i64 x.o) (.int .i64 x.s) (.int .i64 x.a) (.bool x.ov) (.slice A1 x.adj.length c1') (.slice B1 x.pre.length d1)
    have hfin:CurPost w x true _ _:=⟨_,rfl,⟨_,_,_,_,rfl,own_mono q1 (by simp),own_mono q2 (by simp),hu⟩,S9.b⟩
    go_wp2_with fail
    exact bodyPost_ret (v:=.tuple #[laV x.o x.s x.a x.ov A1 x.adj.length c1' B1 x.pre.length d1,.bool true]) (by simp [results,Tryz.results131,go_sem,r0,r1,r2,r3,r4,r5]) rfl hfin
end Go.Proofs.YtehimhbgakpenaaGreat

namespace Go.Proofs.YtehimhbgakpenaaGreat
set_option linter.unusedVariables false
open Go.RowKit Go.Sort
structure OrR where
 x:La
 now:Bool
 made:Bool
 err:Int
noncomputable def setP (x:La) (mk:Bool) (y:La):OrR :=
 if vB (num x.o 1 0 y) = true then if mk = true ∧ conB x y = true then ⟨x,mk,false,0⟩ else if 1073741824 ≤ x.s then ⟨x,mk,false,6⟩ else ⟨num x.o (x.s + 1) 0 y,true,true,0⟩ else ⟨x,mk,false,1⟩
noncomputable def hearP (x:La) (mk:Bool) (a:La):OrR :=
 if vB a = true ∧ a.o = x.o then if mk = true then if newI a x ≤ 0 then ⟨x,mk,false,0⟩ else if 1073741824 ≤ a.s then ⟨x,mk,false,6⟩ else ⟨num x.o (a.s + 1) 0 x,true,true,0⟩ else ⟨num x.o (max x.s a.s) x.a x,mk,false,0⟩ else ⟨x,mk,false,1⟩
def OrPost (w:World) (g:Nat) (r:OrR) (e:Ending) (w':World):Prop:=e = .returned (.tuple #[.bool r.made,.int .i64 r.err]) ∧ OrAt w' g r.x r.now ∧ w.grownBy w' (some g)
def OrKeep (w:World) (g:Nat) (r:OrR) (e:Ending) (w':World):Prop:=OrPost w g r e w' ∧ Keeps w w' g
theorem OrKeep.same {w w':World} {g:Nat} {x:La} {mk:Bool} (h:OrAt w g x mk) (hb:Below w.heap.size w w') (err:Int):OrKeep w g ⟨x,mk,false,err⟩ (.returned (.tuple #[.bool false,.int .i64 err])) w':=⟨⟨rfl,h.below hb,below_grownBy hb _⟩,.below h.lt hb⟩
set_option maxRecDepth 100000 in
set_option maxHeartbeats 3200000 in
theorem oset_keep (w:World) (g:Nat) (v:Value) (x y:La) (mk:Bool) (h:OrAt w g x mk) (hv:CoAt w v y) (hb1:y.adj.length ≤ 1000000) (hb2:y.pre.length ≤ 1000000) (hs0:0 ≤ x.s) (hs1:x.s ≤ 1073741824) :
  Calls Tryz.prog 77 #[.pointer (some ⟨g,0,none⟩),v] w (OrKeep w g (setP x mk y)):=by
 obtain ⟨A',c',B',d',bx,hco⟩:=h.co
 obtain ⟨A,c,B,d,rfl⟩:=hv.form
 have S:=(St.start w).new' #[.bool y.ov,.slice A y.adj.length c,.slice B y.pre.length d] 164 w.heap.size _ rfl rfl
 have V:=fun W (hb:Below w.heap.size w W)=>advert_any W g _ y x.o 1 0 ((bx.later hb).c 3 rfl) (hv.below hb) hb1 hb2
 have E:=fun W (hb:Below w.heap.size w W)=>coequal_any W _ _ x y (hco.below hb) (hv.below hb)
 have C:=fun W (hb:Below w.heap.size w W)=>coclone_any W _ y (hv.below hb) hb1 hb2
 replace bx:Hid (∀ W,Below w.heap.size w W → Box W g [.bool x.ov,.slice A' x.adj.length c',.slice B' x.pre.length d',.int .i64 x.o,.int .i64 x.s,.bool mk,.int .i64 x.a]):=fun W hb=>bx.later hb
 have hglt:=h.lt
 replace h:=Lib.hid h
 clear hco hv
 have hva:=fun W v hv=>valid_at W v (num x.o 1 0 y) hv
 obtain ⟨r,hr⟩:∃ r,setP x mk y = r:=⟨_,rfl⟩
 rw [hr]
 unfold setP at hr
 generalize vB (num x.o 1 0 y) = vb at *
 generalize conB x y = cb at *
 replace hr:=Lib.hid hr
 replace V:=Lib.hid V
 replace E:=Lib.hid E
 replace C:=Lib.hid C
 replace hva:=Lib.hid hva
 have b0:=S.c 0 0 rfl rfl
 have b1:=S.c 0 1 rfl rfl
 have b2:=S.c 0 2 rfl rfl
 go_enter Tryz.func77,Tryz.ntmps77
 go_wp2_with fail
 (with_reducible refine (V.out _ S.b).mono ?_)
 rintro e w1 ⟨v1,rfl,hown,hb⟩
 clear V
 clear b0 b1 b2
 replace S:=S.call hb
 clear hb
 obtain ⟨A1,c1,B1,d1,rfl,hL1⟩:=hown.open
 have h1:=hL1.out _ (Below.refl _ _)
 clear hL1 hown
 go_wp2_with fail
 (with_reducible refine (hva.out _ _ h1).mono ?_)
 rintro e w2 ⟨rfl,hb⟩
 replace S:=S.call hb
 clear hb h1 hva
 cases vb with
 | false =>
   obtain rfl:⟨x,mk,false,1⟩ = r:=by rw [← hr.out,if_neg (by simp)]
   go_wp2_with fail
   go_ret2
   exact .same h.out S.b 1
 | true =>
 have bx2:=bx.out _ S.b
 have o0:=bx2.c 0 rfl
 have o1:=bx2.c 1 rfl
 have o2:=bx2.c 2 rfl
 have o4:=bx2.c 4 rfl
 have o5:=bx2.c 5 rfl
 go_wp2_with fail
 replace o0:=cell_regrown o0
 replace o1:=cell_regrown o1
 replace o2:=cell_regrown o2
 replace o4:=cell_regrown o4
 replace o5:=cell_regrown o5
 have b0:=cell_regrown (S.c 0 0 rfl rfl)
 have b1:=cell_regrown (S.c 0 1 rfl rfl)
 have b2:=cell_regrown (S.c 0 2 rfl rfl)
 cases mk with
 | true =>
   refine wp_region_quiet_below (by kernel_rfl) (by kernel_rfl) ?_
   repeat (go_big_quiet_step ((first | (go_at_call 128; with_reducible exact Calls.regrown_of (E.out _ (S.b.trans ((below_regrown _ _ _).mono S.b.size)))))))
   refine wpQuiet_nil ?_
   intro _ hw'
   obtain ⟨⟨dq,osq⟩,hw''⟩:=hw'
   subst hw''
   replace S:=S.call (below_regrown _ dq osq)
   generalize grow (redrawn _ dq) osq = w3 at *
   clear o0 o1 o2 o4 o5 E
   clear b0 b1 b2
   cases cb with
   | true =>
     obtain rfl:⟨x,true,false,0⟩ = r:=by rw [← hr.out,if_pos (by simp),if_pos (by simp)]
     go_wp2_with fail
     go_ret2
     exact .same h.out S.b 0
   | false =>
     have o4:=(bx.out _ S.b).c 4 rfl
     by_cases hf:1073741824 ≤ x.s
     ·obtain rfl:⟨x,true,false,6⟩ = r:=by rw [← hr.out,if_pos (by simp),if_neg (by simp),if_pos hf]
      clear hr
      go_wp2_with fail
      go_ret2
      exact .same h.out S.b 6
     ·obtain rfl:⟨num x.o (x.s + 1) 0 y,true,true,0⟩ = r:=by rw [← hr.out,if_pos (by simp),if_neg (by simp),if_neg hf]
      clear hr
      have b0:=S.c 0 0 rfl rfl
      have b1:=S.c 0 1 rfl rfl
      have b2:=S.c 0 2 rfl rfl
      go_wp2_with fail
      (with_reducible refine (C.out _ S.b).mono ?_)
      rintro e w4 ⟨v4,rfl,hown,hb⟩
      clear b0 b1 b2
      clear o4 C
      have hsz3:=S.b.size
      replace S:=S.call hb
      have bx3:=bx.out _ S.b
      have o0:=bx3.c 0 rfl
      have o1:=bx3.c 1 rfl
      have o2:=bx3.c 2 rfl
      have f0:=bx3.f 0 rfl
      have f1:=bx3.f 1 rfl
      have f2:=bx3.f 2 rfl
      obtain ⟨A4,c4,B4,d4,hv4⟩:=hown.at.form
      subst hv4
      have M:=make_keep _ g (num x.o x.s x.a y) true ((h.out.below S.b).setC hown (by omega)) (by simp only [num]; omega) (by simp only [num]; omega)
      have hg3:=(((below_grownBy S.b (some g)).trans (grownBy_set w4 g 0 (.bool y.ov))).trans (grownBy_set _ g 1 (.slice A4 y.adj.length c4))).trans (grownBy_set _ g 2 (.slice B4 y.pre.length d4))
      have hkp:=Keeps.fresh (W:=w) bx3 rfl hown (by omega) (TyPres.below S.b)
      have hszs:w.heap.size ≤ (((w4.setCell ⟨g,0,none⟩ (.bool y.ov)).setCell ⟨g,1,none⟩ (.slice A4 y.adj.length c4)).setCell ⟨g,2,none⟩ (.slice B4 y.pre.length d4)).heap.size:=by simp only [World.size_setCell]; exact S.b.size
      replace hszs:=Lib.hid hszs
      replace M:=Lib.hid M
      replace hkp:=Lib.hid hkp
      clear hown bx3 hb bx2
      go_wp2_with fail
      (with_reducible refine (M.out).mono ?_)
      rintro e w6 ⟨⟨rfl,hor6,hgr⟩,hkm⟩
      clear M
      go_wp2_with fail
      go_ret2
      exact ⟨⟨rfl,hor6,hg3.trans hgr⟩,hkp.out.trans hszs.out hkm⟩
 | false =>
   refine wp_region_quiet_below (by kernel_rfl) (by kernel_rfl) ?_
   repeat (go_big_quiet_step ((fail)))
   refine wpQuiet_nil ?_
   intro _ hw'
   obtain ⟨⟨dq,osq⟩,hw''⟩:=hw'
   subst hw''
   replace S:=S.call (below_regrown _ dq osq)
   generalize grow (redrawn _ dq) osq = w3 at *
   clear o0 o1 o2 o4 o5 E
   clear b0 b1 b2
   have o4:=(bx.out _ S.b).c 4 rfl
   by_cases hf:1073741824 ≤ x.s
   ·obtain rfl:⟨x,false,false,6⟩ = r:=by rw [← hr.out,if_pos (by simp),if_neg (by simp),if_pos hf]
    clear hr
    go_wp2_with fail
    go_ret2
    exact .same h.out S.b 6
   ·obtain rfl:⟨num x.o (x.s + 1) 0 y,true,true,0⟩ = r:=by rw [← hr.out,if_pos (by simp),if_neg (by simp),if_neg hf]
    clear hr
    have b0:=S.c 0 0 rfl rfl
    have b1:=S.c 0 1 rfl rfl
    have b2:=S.c 0 2 rfl rfl
    go_wp2_with fail
    (with_reducible refine (C.out _ S.b).mono ?_)
    rintro e w4 ⟨v4,rfl,hown,hb⟩
    clear b0 b1 b2
    clear o4 C
    have hsz3:=S.b.size
    replace S:=S.call hb
    have bx3:=bx.out _ S.b
    have o0:=bx3.c 0 rfl
    have o1:=bx3.c 1 rfl
    have o2:=bx3.c 2 rfl
    have f0:=bx3.f 0 rfl
    have f1:=bx3.f 1 rfl
    have f2:=bx3.f 2 rfl
    obtain ⟨A4,c4,B4,d4,hv4⟩:=hown.at.form
    subst hv4
    have M:=make_keep _ g (num x.o x.s x.a y) false ((h.out.below S.b).setC hown (by omega)) (by simp only [num]; omega) (by simp only [num]; omega)
    have hg3:=(((below_grownBy S.b (some g)).trans (grownBy_set w4 g 0 (.bool y.ov))).trans (grownBy_set _ g 1 (.slice A4 y.adj.length c4))).trans (grownBy_set _ g 2 (.slice B4 y.pre.length d4))
    have hkp:=Keeps.fresh (W:=w) bx3 rfl hown (by omega) (TyPres.below S.b)
    have hszs:w.heap.size ≤ (((w4.setCell ⟨g,0,none⟩ (.bool y.ov)).setCell ⟨g,1,none⟩ (.slice A4 y.adj.length c4)).setCell ⟨g,2,none⟩ (.slice B4 y.pre.length d4)).heap.size:=by simp only [World.size_setCell]; exact S.b.size
    replace hszs:=Lib.hid hszs
    replace M:=Lib.hid M
    replace hkp:=Lib.hid hkp
    clear hown bx3 hb bx2
    go_wp2_with fail
    (with_reducible refine (M.out).mono ?_)
    rintro e w6 ⟨⟨rfl,hor6,hgr⟩,hkm⟩
    clear M
    go_wp2_with fail
    go_ret2
    exact ⟨⟨rfl,hor6,hg3.trans hgr⟩,hkp.out.trans hszs.out hkm⟩
set_option maxRecDepth 100000 in
set_option maxHeartbeats 6400000 in
theorem ohear_keep (w:World) (g:Nat) (v:Value) (x a:La) (mk:Bool) (h:OrAt w g x mk) (hv:LaAt w v a) (hb1:x.adj.length ≤ 1000000) (hb2:x.pre.length ≤ 1000000) (hs0:0 ≤ x.s) (hs1:x.s ≤ 1073741824) :
  Calls Tryz.prog 119 #[.pointer (some ⟨g,0,none⟩),v] w (OrKeep w g (hearP x mk a)):=by
 obtain ⟨A',c',B',d',bx,hco⟩:=h.co
 obtain ⟨A,c,B,d,rfl⟩:=hv.form
 have S:=(St.start w).new' #[.int .i64 a.o,.int .i64 a.s,.int .i64 a.a,.bool a.ov,.slice A a.adj.length c,.slice B a.pre.length d] 41 w.heap.size _ rfl rfl
 have V:=fun W (hb:Below w.heap.size w W)=>valid_at W _ a (hv.below hb)
 have C:=fun W (hb:Below w.heap.size w W)=>current_any W g x mk (h.below hb) hb1 hb2
 have N:=fun W (hb:Below w.heap.size w W) v' (hv':LaAt W v' x)=>lnewer_any W _ v' a x (hv.below hb) hv'
 have hvs:vB a = true → 1 ≤ a.s ∧ a.s ≤ 1073741824:=fun h=>(vB_iff.1 h).2.1
 replace bx:Hid (∀ W,Below w.heap.size w W → Box W g [.bool x.ov,.slice A' x.adj.length c',.slice B' x.pre.length d',.int .i64 x.o,.int .i64 x.s,.bool mk,.int .i64 x.a]):=fun W hb=>bx.later hb
 have hglt:=h.lt
 replace h:=Lib.hid h
 clear hco hv
 obtain ⟨r,hr⟩:∃ r,hearP x mk a = r:=⟨_,rfl⟩
 rw [hr]
 unfold hearP at hr
 generalize vB a = vb at *
 generalize newI a x = z at *
 replace hr:=Lib.hid hr
 replace V:=Lib.hid V
 replace C:=Lib.hid C
 replace N:=Lib.hid N
 replace hvs:=Lib.hid hvs
 have o3:=cell_regrown ((bx.out _ S.b).c 3 rfl)
 go_enter Tryz.func119,Tryz.ntmps119
 go_wp2_with fail
 have b0:=cell_regrown (S.c 0 0 rfl rfl)
 have b1:=cell_regrown (S.c 0 1 rfl rfl)
 have b2:=cell_regrown (S.c 0 2 rfl rfl)
 have b3:=cell_regrown (S.c 0 3 rfl rfl)
 have b4:=cell_regrown (S.c 0 4 rfl rfl)
 have b5:=cell_regrown (S.c 0 5 rfl rfl)
 cases vb with
 | false =>
   refine wp_region_quiet_below (by kernel_rfl) (by kernel_rfl) ?_
   repeat (go_big_quiet_step ((first | (go_at_call 126; with_reducible exact Calls.regrown_of (V.out _ (S.b.trans ((below_regrown _ _ _).mono S.b.size)))))))
   refine wpQuiet_nil ?_
   intro _ hw'
   obtain ⟨⟨dq,osq⟩,hw''⟩:=hw'
   subst hw''
   replace S:=S.call (below_regrown _ dq osq)
   generalize grow (redrawn _ dq) osq = w3 at *
   obtain rfl:⟨x,mk,false,1⟩ = r:=by rw [← hr.out,if_neg (by simp)]
   go_wp2_with fail
   go_ret2
   exact .same h.out S.b 1
 | true =>
 by_cases ho:a.o = x.o
 rotate_left
 ·have ho2:(a.o != x.o) = true:=by simpa using ho
  obtain rfl:⟨x,mk,false,1⟩ = r:=by rw [← hr.out,if_neg (by simp [ho])]
  clear hr
  refine wp_region_quiet_below (by kernel_rfl) (by kernel_rfl) ?_
  repeat (go_big_quiet_step ((first | (go_at_call 126; with_reducible exact Calls.regrown_of (V.out _ (S.b.trans ((below_regrown _ _ _).mono S.b.size)))))))
  refine wpQuiet_nil ?_
  intro _ hw'
  obtain ⟨⟨dq,osq⟩,hw''⟩:=hw'
  subst hw''
  replace S:=S.call (below_regrown _ dq osq)
  generalize grow (redrawn _ dq) osq = w3 at *
  go_wp2_with fail
  go_ret2
  exact .same h.out S.b 1
 have ho2:(a.o != x.o) = false:=by simpa using ho
 have hr2:=hr.out
 rw [if_pos ⟨by simp,ho⟩] at hr2
 replace hr:=Lib.hid hr2
 have hvs2:=hvs.out (by simp)
 clear hr2 ho hvs
 refine wp_region_quiet_below (by kernel_rfl) (by kernel_rfl) ?_
 repeat (go_big_quiet_step ((first | (go_at_call 126; with_reducible exact Calls.regrown_of (V.out _ (S.b.trans ((below_regrown _ _ _).mono S.b.size)))))))
 refine wpQuiet_nil ?_
 intro _ hw'
 obtain ⟨⟨dq,osq⟩,hw''⟩:=hw'
 subst hw''
 replace S:=S.call (below_regrown _ dq osq)
 generalize grow (redrawn _ dq) osq = w3 at *
 clear o3 V ho2
 clear b0 b1 b2 b3 b4 b5
 go_wp2_with fail
 (with_reducible refine (C.out _ S.b).mono ?_)
 rintro e w4 ⟨v4,rfl,hown,hb⟩
 clear C
 replace S:=S.call hb
 obtain ⟨A4,c4,B4,d4,rfl,hL4⟩:=hown.open
 have h4:=hL4.out _ (Below.refl _ _)
 clear hL4 hown hb
 cases mk with
 | false =>
   rw [show curX x false = laZero from rfl] at *
   replace S:=S.new' #[.int .i64 laZero.o,.int .i64 laZero.s,.int .i64 laZero.a,.bool laZero.ov,.slice A4 laZero.adj.length c4,.slice B4 laZero.pre.length d4] 41 (w4.heap.size) _ (by first | rfl | simp) rfl
   obtain rfl:⟨num x.o (max x.s a.s) x.a x,false,false,0⟩ = r:=by rw [← hr.out,if_neg (by simp)]
   clear hr h4 N
   have hmx:(x.s < a.s ∧ max x.s a.s = a.s) ∨ (¬ x.s < a.s ∧ max x.s a.s = x.s):=by omega
   generalize max x.s a.s = m at *
   rcases hmx with ⟨hm1,rfl⟩ | ⟨hm1,rfl⟩
   all_goals
    go_wp2_with fail
    generalize w4.alloc _ = w5 at *
    have o4:=(bx.out _ S.b).c 4 rfl
    have f4:=(bx.out _ S.b).f 4 rfl
    have b0:=S.c 1 0 rfl rfl
    have b1:=S.c 1 1 rfl rfl
    have b2:=S.c 1 2 rfl rfl
    have b3:=S.c 1 3 rfl rfl
    have b4:=S.c 1 4 rfl rfl
    have b5:=S.c 1 5 rfl rfl
    go_still_tail 10,(by kernel_rfl)
    change wpList _ _ _ _ _ w5.drew
    replace S:=S.drew
    clear o4 f4
    clear b0 b1 b2 b3 b4 b5
    have o4:=(bx.out _ S.b).c 4 rfl
    have f4:=(bx.out _ S.b).f 4 rfl
    have hfin:Hid (∀ m',OrAt (w5.drew.setCell ⟨g,4,none⟩ (.int .i64 m')) g (num x.o m' x.a x) false ∧ w.grownBy (w5.drew.setCell ⟨g,4,none⟩ (.int .i64 m')) (some g) ∧ Keeps w (w5.drew.setCell ⟨g,4,none⟩ (.int .i64 m')) g):=fun m'=>⟨(h.out.below S.b).setS m',(below_grownBy S.b (some g)).trans (grownBy_set _ g 4 _),(Keeps.below hglt S.b).trans S.b.size (Keeps.set _ (by omega) (by omega))⟩
    generalize w5.drew = w6 at *
    go_wp2_with fail
    go_ret2
    exact ⟨⟨rfl,(hfin.out _).1,(hfin.out _).2.1⟩,(hfin.out _).2.2⟩
 | true =>
   rw [show curX x true = x from rfl] at *
   replace S:=S.new' #[.int .i64 x.o,.int .i64 x.s,.int .i64 x.a,.bool x.ov,.slice A4 x.adj.length c4,.slice B4 x.pre.length d4] 41 (w4.heap.size) _ (by first | rfl | simp) rfl
   replace h4:=h4.below (below_new' _ (.cells #[.int .i64 x.o,.int .i64 x.s,.int .i64 x.a,.bool x.ov,.slice A4 x.adj.length c4,.slice B4 x.pre.length d4] 41))
   have N2:=N.out _ S.b _ h4
   replace N2:=Lib.hid N2
   clear N h4
   have b0:=S.c 1 0 rfl rfl
   have b1:=S.c 1 1 rfl rfl
   have b2:=S.c 1 2 rfl rfl
   have b3:=S.c 1 3 rfl rfl
   have b4:=S.c 1 4 rfl rfl
   have b5:=S.c 1 5 rfl rfl
   have q0:=S.c 0 0 rfl rfl
   have q1:=S.c 0 1 rfl rfl
   have q2:=S.c 0 2 rfl rfl
   have q3:=S.c 0 3 rfl rfl
   have q4:=S.c 0 4 rfl rfl
   have q5:=S.c 0 5 rfl rfl
   go_wp2_with fail
   (with_reducible refine (N2.out).mono ?_)
   rintro e w6 ⟨rfl,hb⟩
   clear N2
   clear b0 b1 b2 b3 b4 b5
   clear q0 q1 q2 q3 q4 q5
   replace S:=S.call hb
   clear hb
   by_cases hz:z ≤ 0
   ·obtain rfl:⟨x,true,false,0⟩ = r:=by rw [← hr.out,if_pos (by simp),if_pos hz]
    clear hr
    go_wp2_with fail
    go_ret2
    exact .same h.out S.b 0
   have hz':¬ z ≤ 0:=hz
   have b0:=S.c 1 0 rfl rfl
   have b1:=S.c 1 1 rfl rfl
   have b2:=S.c 1 2 rfl rfl
   have b3:=S.c 1 3 rfl rfl
   have b4:=S.c 1 4 rfl rfl
   have b5:=S.c 1 5 rfl rfl
   by_cases hs:1073741824 ≤ a.s
   ·obtain rfl:⟨x,true,false,6⟩ = r:=by rw [← hr.out,if_pos (by simp),if_neg hz,if_pos hs]
    clear hr
    go_wp2_with fail
    go_ret2
    exact .same h.out S.b 6
   obtain rfl:⟨num x.o (a.s + 1) 0 x,true,true,0⟩ = r:=by rw [← hr.out,if_pos (by simp),if_neg hz,if_neg hs]
   clear hr
   have o4:=(bx.out _ S.b).c 4 rfl
   have f4:=(bx.out _ S.b).f 4 rfl
   have M:=make_keep _ g { x with s:=a.s } true ((h.out.below S.b).setS a.s) (by simp only; omega) (by simp only; omega)
   have hg3:=(below_grownBy S.b (some g)).trans (grownBy_set w6 g 4 (.int .i64 a.s))
   have hkp:Hid (Keeps w (w6.setCell ⟨g,4,none⟩ (.int .i64 a.s)) g):=(Keeps.below hglt S.b).trans S.b.size (Keeps.set _ (by omega) (by omega))
   have hszs:Hid (w.heap.size ≤ (w6.setCell ⟨g,4,none⟩ (.int .i64 a.s)).heap.size):=by show _ ≤ _; simp only [World.size_setCell]; exact S.b.size
   replace M:=Lib.hid M
   go_wp2_with fail
   (with_reducible refine (M.out).mono ?_)
   rintro e w7 ⟨⟨rfl,hor6,hgr⟩,hkm⟩
   clear M
   go_wp2_with fail
   go_ret2
   exact ⟨⟨rfl,hor6,hg3.trans hgr⟩,hkp.out.trans hszs.out hkm⟩
end Go.Proofs.YtehimhbgakpenaaGreat
