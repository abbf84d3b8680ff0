/-
  The texts Fl6, FlD, FlS, one after the other.
-/
import Derived.Test.YtehimhbgakpenaaGreatQPWith35
import Derived.Test.YtehimhbgakpenaaGreatQPWith9
import Derived.Deep.RegionLaw
namespace Go.Proofs.YtehimhbgakpenaaGreat.Fd
set_option linter.unusedVariables false
open Go.RowKit Go.Maps Go.Sort
def dO (D:Db) (o:Int):Option Hd:=if 0 ≤ o ∧ o < 64 then D o.toNat else none
def ackB (D:Db) (a:La):Bool:=match dO D a.o with | some h=>sameB h.x a | none=>false
def ackD (D:Db) (a:La):Db:=if ackB D a = true then fun i=>if i = a.o.toNat then none else D i else D
def AckPost (w:World) (g b:Nat) (iv:Int) (N:Fn) (f:Nat → Nat) (lk:Nat) (D:Db) (a:La) (e:Ending) (w':World):Prop :=
 e = .returned (.tuple #[.bool (ackB D a),.int .i64 0]) ∧ FlAt w' g b iv (setN N lk (ackD D a)) f ∧ w.grownBy w' (some (f lk))
set_option maxRecDepth 100000 in
set_option maxHeartbeats 6400000 in
theorem fack_any (w:World) (g b:Nat) (iv:Int) (N:Fn) (f:Nat → Nat) (h:FlAt w g b iv N f) (lk:Nat) (hl:lk < 256) (D:Db) (hD:N lk = some D) (v:Value) (a:La) (hv:LaAt w v a) (hwf:(Lit.int .i64 a.o).wf = true) :
  Calls Tryz.prog 69 #[.pointer (some ⟨g,0,none⟩),.int .i64 (lk:Int),v] w (AckPost w g b iv N f lk D a):=by
 obtain ⟨A,c,B,d,rfl,hla⟩:=hv.opened
 clear hv
 have S:=(St.start w).new' #[.int .i64 a.o,.int .i64 a.s,.int .i64 a.a,.bool a.ov,.slice A a.adj.length c,.slice B a.pre.length d] 41 w.heap.size _ rfl rfl
 have hs:(N lk).isSome = true:=by rw [hD]; rfl
 obtain ⟨M,hm,he⟩:=h.el lk hl D hD
 have hek:ElAt w (M a.o) (dO D a.o):=by
  unfold dO
  by_cases ho:0 ≤ a.o ∧ a.o < 64
  ·rw [if_pos ho]
   have:=he a.o.toNat (by omega)
   rwa [Int.toNat_of_nonneg ho.1] at this
  ·rw [if_neg ho]
   cases hM:M a.o with
   | none=>trivial
   | some z=>exact absurd (hm.small (i:=a.o) (by rw [hM]; rfl)) (by omega)
 have hwl:(Lit.int .i64 (lk:Int)).wf = true:=wf64 (by omega) (by omega)
 have hfin:Hid (∀ w',Below w.heap.size w w' → ackB D a = false → AckPost w g b iv N f lk D a (.returned (.tuple #[.bool false,.int .i64 0])) w'):=fun w' hb ho=>by
  have e:setN N lk (ackD D a) = N:=by
   unfold setN ackD
   rw [ho,if_neg (by simp)]
   funext j
   by_cases e:j = lk
   ·subst e; rw [if_pos rfl,hD]
   ·rw [if_neg e]
  refine ⟨by rw [ho],?_,below_row hb _⟩
  rw [e]; exact h.below hb
 have hdel:Hid (∀ wa w',Below w.heap.size w wa → ackB D a = true → MapIs 64 w' (f lk) (fun j=>if j = a.o then none else M j) → wa.grownBy w' (some (f lk)) → AckPost w g b iv N f lk D a (.returned (.tuple #[.bool true,.int .i64 0])) w'):=fun wa w' hb ho hm' hg=>by
  have hgr:=(below_row hb (some (f lk))).trans hg
  have hq:=(Kq.of_below hb).trans (Kq.of_map (hm.below hb) hg)
  have ho64:0 ≤ a.o ∧ a.o < 64:=by
   by_cases h9:0 ≤ a.o ∧ a.o < 64
   ·exact h9
   ·unfold ackB dO at ho
    rw [if_neg h9] at ho
    cases ho
  obtain ⟨k,hk⟩:=Int.eq_ofNat_of_zero_le ho64.1
  rw [hk] at hm'
  have hin:=InAt.put hm he hq k (by omega) none none trivial hm'
  have e:setN N lk (ackD D a) = fun j=>if j = lk then some (fun i=>if i = k then none else D i) else N j:=by
   unfold setN ackD
   rw [ho,if_pos rfl,hk,Int.toNat_natCast]
  refine ⟨by rw [ho],?_,hgr⟩
  rw [e]
  exact h.turn hl hs hin hgr
 have hc1:=cell_later S.b h.c1
 have K1:=(h.nb.below S.b).run_ok nbT hwl
 rw [nbM_at hl,hD] at K1
 simp only [Option.map_some,Option.getD_some,Option.isSome_some] at K1
 have K2:=(hm.below S.b).run_ok pdT hwf
 have hu:∃ u0 u1 u2 u3 A9 n9 c9 B9 m9 d9 u6,(M a.o).getD hdZ = .agg #[.int .i64 u0,.int .i64 u1,.int .i64 u2,.bool u3,.slice A9 n9 c9,.slice B9 m9 d9,.int .i64 u6]:=by
  cases hM:M a.o with
  | none=>exact ⟨_,_,_,_,_,_,_,_,_,_,_,rfl⟩
  | some vv =>
    rw [hM] at hek
    cases hN:dO D a.o with
    | none=>rw [hN] at hek; exact hek.elim
    | some hh =>
      rw [hN] at hek
      obtain ⟨A9,c9,B9,d9,rfl,_⟩:=hek
      exact ⟨_,_,_,_,_,_,_,_,_,_,_,rfl⟩
 obtain ⟨u0,u1,u2,u3,A9,n9,c9,B9,m9,d9,u6,hu⟩:=hu
 rw [hu] at K2
 obtain ⟨ok,hok⟩:∃ z,(M a.o).isSome = z:=⟨_,rfl⟩
 rw [hok] at K2
 replace hu:=Lib.hid hu
 replace hok:=Lib.hid hok
 replace hm:=Lib.hid hm
 have a0:=S.c 0 0 rfl rfl
 have a1:=S.c 0 1 rfl rfl
 have a2:=S.c 0 2 rfl rfl
 have a3:=S.c 0 3 rfl rfl
 have a4:=S.c 0 4 rfl rfl
 have a5:=S.c 0 5 rfl rfl
 clear h he
 go_enter Tryz.func69,Tryz.ntmps69
 go_upto_region 7 with fail
 clear a0 a1 a2 a3 a4 a5
 clear hc1 K1 K2
 have S2:=S.new' #[.int .i64 u0,.int .i64 u1,.int .i64 u2,.bool u3,.slice A9 n9 c9,.slice B9 m9 d9,.int .i64 u6] 231 (w.heap.size + 1) _ (by simp) rfl
 clear S
 generalize World.alloc (World.alloc w _) _ = w2 at *
 cases ok with
 | false =>
   have hno:ackB D a = false:=by
    unfold ackB
    cases hN:dO D a.o with
    | none=>rfl
    | some hh =>
      rw [hN] at hek
      cases hM:M a.o with
      | none=>rw [hM] at hek; exact hek.elim
      | some z=>have:=hok.out; rw [hM] at this; cases this
   have hf:=hfin.out _ S2.b hno
   replace hf:=Lib.hid hf
   clear hfin hdel hno hek
   go_wp2_with fail
   go_ret2
   exact hf.out
 | true =>
   obtain ⟨hh,hNk,hu2,hlx⟩:∃ hh,dO D a.o = some hh ∧ (.agg #[.int .i64 u0,.int .i64 u1,.int .i64 u2,.bool u3,.slice A9 n9 c9,.slice B9 m9 d9,.int .i64 u6]:Value) = hdV hh.x A9 c9 B9 d9 hh.l ∧ LaAt w (laV hh.x.o hh.x.s hh.x.a hh.x.ov A9 hh.x.adj.length c9 B9 hh.x.pre.length d9) hh.x:=by
    cases hM:M a.o with
    | none=>have:=hok.out; rw [hM] at this; cases this
    | some vv =>
      rw [hM] at hek
      cases hN:dO D a.o with
      | none=>rw [hN] at hek; exact hek.elim
      | some hh =>
        rw [hN] at hek
        obtain ⟨A8,c8,B8,d8,rfl,hla⟩:=hek
        have hv:=hu.out
        rw [hM] at hv
        simp only [Option.getD_some,Value.agg.injEq,Array.mk.injEq,List.cons.injEq,Value.slice.injEq,Value.int.injEq,Value.bool.injEq,true_and,and_true] at hv
        obtain ⟨rfl,rfl,rfl,rfl,⟨rfl,rfl,rfl⟩,⟨rfl,rfl,rfl⟩,rfl⟩:=hv
        exact ⟨hh,rfl,rfl,hla.1⟩
   simp only [Value.agg.injEq,Array.mk.injEq,List.cons.injEq,Value.slice.injEq,Value.int.injEq,Value.bool.injEq,true_and,and_true] at hu2
   obtain ⟨rfl,rfl,rfl,rfl,rfl,rfl,rfl⟩:=hu2
   have SM:=lsame_any w2 _ _ hh.x a (hlx.below S2.b) (hla.below S2.b)
   have hoz:Hid (ackB D a = sameB hh.x a):=by show _ = _; unfold ackB; rw [hNk]
   generalize sameB hh.x a = z at *
   replace SM:=Lib.hid SM
   clear hek hNk hla hlx
   have a0:=S2.c 1 0 rfl rfl
   have a1:=S2.c 1 1 rfl rfl
   have a2:=S2.c 1 2 rfl rfl
   have a3:=S2.c 1 3 rfl rfl
   have a4:=S2.c 1 4 rfl rfl
   have a5:=S2.c 1 5 rfl rfl
   have r0:=S2.c 0 0 rfl rfl
   have r1:=S2.c 0 1 rfl rfl
   have r2:=S2.c 0 2 rfl rfl
   have r3:=S2.c 0 3 rfl rfl
   have r4:=S2.c 0 4 rfl rfl
   have r5:=S2.c 0 5 rfl rfl
   go_wp2_with fail
   (with_reducible refine (SM.out).mono ?_)
   rintro e w3 ⟨rfl,hb⟩
   clear a0 a1 a2 a3 a4 a5
   clear r0 r1 r2 r3 r4 r5
   replace S2:=S2.call hb
   clear SM hb
   cases z with
   | false =>
     have hf:=hfin.out _ S2.b hoz.out
     replace hf:=Lib.hid hf
     clear hfin hdel hoz
     go_wp2_with fail
     go_ret2
     exact hf.out
   | true =>
     obtain ⟨w9,run9,hm9,hg9⟩:=(hm.out.below S2.b).run_del pdT 0 (i:=a.o) hwf
     have hf:=hdel.out _ _ S2.b hoz.out hm9 hg9
     replace hf:=Lib.hid hf
     clear hfin hdel hoz hm9 hg9
     have a0:=S2.c 1 0 rfl rfl
     have a1:=S2.c 1 1 rfl rfl
     have a2:=S2.c 1 2 rfl rfl
     have a3:=S2.c 1 3 rfl rfl
     have a4:=S2.c 1 4 rfl rfl
     have a5:=S2.c 1 5 rfl rfl
     go_wp2_with fail
     go_ret2
     exact hf.out
end Go.Proofs.YtehimhbgakpenaaGreat.Fd

namespace Go.Proofs.YtehimhbgakpenaaGreat.Fd
set_option linter.unusedVariables false
open Go.RowKit Go.Maps Go.Sort Go.Shelf
def lkO (N:Fn) (z:Int):Option Db:=if 0 ≤ z ∧ z < 256 then N z.toNat else none
theorem lkO_nat {N:Fn} {i:Nat} (hi:i < 256):lkO N (i:Int) = N i:=by
 unfold lkO; rw [if_pos ⟨by omega,by omega⟩,Int.toNat_natCast]
theorem nbM_none' {N:Fn} {f:Nat → Nat} {z:Int} (h:lkO N z = none):nbM N f z = none:=by
 unfold nbM
 unfold lkO at h
 split
 ·next h2=>rw [if_pos h2] at h; rw [h]; rfl
 ·rfl
section
variable {w w':World} {g b:Nat} {iv:Int} {N:Fn} {f:Nat → Nat}
theorem FlAt.down (h:FlAt w g b iv N f) {i:Nat} (hi:i < 256) (hm:MapIs 256 w' b (fun j=>if j = (i:Int) then none else nbM N f j)) (hg:w.grownBy w' (some b)):FlAt w' g b iv (dropN N i) f:=by
 have hq:=Kq.of_map h.nb hg
 refine ⟨hq.cell h.c0,hq.cell h.c1,?_,fun j hj D hD=>?_,fun j hj hs=>?_,fun j k hj hk hjs hks e=>?_⟩
 ·have e:nbM (dropN N i) f = fun j=>if j = (i:Int) then none else nbM N f j:=by
   funext z
   unfold nbM dropN
   by_cases e:z = (i:Int)
   ·subst e; simp
   ·rw [if_neg e]
    split
    ·next h2=>rw [if_neg (by omega)]
    ·rfl
  rw [e]; exact hm
 ·unfold dropN at hD
  split at hD
  ·cases hD
  ·exact (h.el j hj D hD).kept hq hg (h.ne j hj (by rw [hD]; rfl))
 ·unfold dropN at hs
  split at hs
  ·cases hs
  ·exact h.ne j hj hs
 ·unfold dropN at hjs hks
  split at hjs
  ·cases hjs
  ·split at hks
   ·cases hks
   ·exact h.inj j k hj hk hjs hks e
end
def DownPost (w:World) (g b:Nat) (iv:Int) (N':Fn) (f:Nat → Nat) (e:Ending) (w':World):Prop:=e = .returned (.int .i64 0) ∧ FlAt w' g b iv N' f ∧ w.grownBy w' (some b)
set_option maxRecDepth 100000 in
set_option maxHeartbeats 1600000 in
theorem fdown_yes (w:World) (g b:Nat) (iv:Int) (N:Fn) (f:Nat → Nat) (h:FlAt w g b iv N f) (i:Nat) (hi:i < 256) (D:Db) (hD:N i = some D) :
  Calls Tryz.prog 145 #[.pointer (some ⟨g,0,none⟩),.int .i64 (i:Int)] w (DownPost w g b iv (dropN N i) f):=by
 have c1:=h.c1
 have hwf:(Lit.int .i64 (i:Int)).wf = true:=wf64 (by omega) (by omega)
 have K1:=h.nb.run_ok nbT hwf
 rw [nbM_at hi,hD] at K1
 simp only [Option.map_some,Option.getD_some,Option.isSome_some] at K1
 obtain ⟨w9,run9,hm9,hg9⟩:=h.nb.run_del nbT 0 hwf
 have hf:=Lib.hid (h.down hi hm9 hg9)
 clear h hm9
 replace hg9:=Lib.hid hg9
 go_enter Tryz.func145,Tryz.ntmps145
 go_wp2_with fail
 go_ret
 exact ⟨rfl,hf.out,hg9.out⟩
set_option maxRecDepth 100000 in
set_option maxHeartbeats 1600000 in
theorem foffer_no (w:World) (g b:Nat) (iv:Int) (N:Fn) (f:Nat → Nat) (h:FlAt w g b iv N f) (z:Int) (hz:(Lit.int .i64 z).wf = true) (hN:lkO N z = none) (v:Value) (a:La) (hv:LaAt w v a) :
  Calls Tryz.prog 121 #[.pointer (some ⟨g,0,none⟩),.int .i64 z,v] w fun e w'=>e = .returned (.int .i64 8) ∧ Below w.heap.size w w':=by
 obtain ⟨A,c,B,d,rfl,hla⟩:=hv.opened
 have S:=(St.start w).new' #[.int .i64 a.o,.int .i64 a.s,.int .i64 a.a,.bool a.ov,.slice A a.adj.length c,.slice B a.pre.length d] 41 w.heap.size _ rfl rfl
 have hb9:=S.b
 have c1:=cell_later S.b h.c1
 have K1:=(h.nb.below S.b).run_ok nbT hz
 rw [nbM_none' hN] at K1
 simp only [Option.getD_none,Option.isSome_none] at K1
 clear h hN hla hv S
 go_enter Tryz.func121,Tryz.ntmps121
 go_wp2_with fail
 go_ret
 exact ⟨rfl,hb9⟩
def FofPost (w:World) (g b:Nat) (iv:Int) (N':Fn) (f:Nat → Nat) (k:Nat) (er:Int) (e:Ending) (w':World):Prop:=e = .returned (.int .i64 er) ∧ FlAt w' g b iv N' f ∧ w.grownBy w' (some k)
set_option maxRecDepth 100000 in
set_option maxHeartbeats 3200000 in
theorem foffer_bad (w:World) (g b:Nat) (iv:Int) (N:Fn) (f:Nat → Nat) (h:FlAt w g b iv N f) (i:Nat) (hi:i < 256) (D:Db) (hD:N i = some D) (v:Value) (a:La) (hv:LaAt w v a) (hva:¬ LaValid a) :
  Calls Tryz.prog 121 #[.pointer (some ⟨g,0,none⟩),.int .i64 (i:Int),v] w fun e w'=>e = .returned (.int .i64 1) ∧ Below w.heap.size w w':=by
 obtain ⟨A,c,B,d,rfl,hla⟩:=hv.opened
 have S:=(St.start w).new' #[.int .i64 a.o,.int .i64 a.s,.int .i64 a.a,.bool a.ov,.slice A a.adj.length c,.slice B a.pre.length d] 41 w.heap.size _ rfl rfl
 have c1:=cell_later S.b h.c1
 have hwf:(Lit.int .i64 (i:Int)).wf = true:=wf64 (by omega) (by omega)
 have K1:=(h.nb.below S.b).run_ok nbT hwf
 rw [nbM_at hi,hD] at K1
 simp only [Option.map_some,Option.getD_some,Option.isSome_some] at K1
 have V:=valid_at _ _ a (hla.below S.b)
 rw [vB_f hva] at V
 replace V:=Lib.hid V
 clear h hla hv
 have q0:=S.c 0 0 rfl rfl
 have q1:=S.c 0 1 rfl rfl
 have q2:=S.c 0 2 rfl rfl
 have q3:=S.c 0 3 rfl rfl
 have q4:=S.c 0 4 rfl rfl
 have q5:=S.c 0 5 rfl rfl
 go_enter Tryz.func121,Tryz.ntmps121
 go_wp2_with fail
 (with_reducible refine (V.out).mono ?_)
 rintro e w1 ⟨rfl,hb⟩
 replace S:=S.call hb
 have hb9:=S.b
 clear hb V S
 clear q0 q1 q2 q3 q4 q5
 go_wp2_with fail
 go_ret
 exact ⟨rfl,hb9⟩
set_option maxRecDepth 100000 in
set_option maxHeartbeats 3200000 in
theorem foffer_yes (w:World) (g b:Nat) (iv:Int) (N:Fn) (f:Nat → Nat) (h:FlAt w g b iv N f) (i:Nat) (hi:i < 256) (D:Db) (hD:N i = some D) (v:Value) (a:La) (hv:LaAt w v a) (hva:LaValid a) :
  Calls Tryz.prog 121 #[.pointer (some ⟨g,0,none⟩),.int .i64 (i:Int),v] w (FofPost w g b iv (setN N i (offD D a)) f (f i) 0):=by
 obtain ⟨A,c,B,d,rfl,hla⟩:=hv.opened
 have S:=(St.start w).new' #[.int .i64 a.o,.int .i64 a.s,.int .i64 a.a,.bool a.ov,.slice A a.adj.length c,.slice B a.pre.length d] 41 w.heap.size _ rfl rfl
 have c1:=cell_later S.b h.c1
 have hwf:(Lit.int .i64 (i:Int)).wf = true:=wf64 (by omega) (by omega)
 have K1:=(h.nb.below S.b).run_ok nbT hwf
 rw [nbM_at hi,hD] at K1
 simp only [Option.map_some,Option.getD_some,Option.isSome_some] at K1
 have V:=valid_at _ _ a (hla.below S.b)
 rw [vB_t hva] at V
 have OF:=fun W (hb:Below w.heap.size w W)=>foffer0_any W g b iv N f (h.below hb) i hi D hD _ a (hla.below hb) hva
 replace V:=Lib.hid V
 replace OF:=Lib.hid OF
 clear h hla hv
 have q0:=S.c 0 0 rfl rfl
 have q1:=S.c 0 1 rfl rfl
 have q2:=S.c 0 2 rfl rfl
 have q3:=S.c 0 3 rfl rfl
 have q4:=S.c 0 4 rfl rfl
 have q5:=S.c 0 5 rfl rfl
 go_enter Tryz.func121,Tryz.ntmps121
 go_wp2_with fail
 (with_reducible refine (V.out).mono ?_)
 rintro e w1 ⟨rfl,hb⟩
 clear q0 q1 q2 q3 q4 q5
 replace S:=S.call hb
 clear hb V
 have q0:=S.c 0 0 rfl rfl
 have q1:=S.c 0 1 rfl rfl
 have q2:=S.c 0 2 rfl rfl
 have q3:=S.c 0 3 rfl rfl
 have q4:=S.c 0 4 rfl rfl
 have q5:=S.c 0 5 rfl rfl
 have hbs:=S.b
 go_wp2_with fail
 (with_reducible refine (OF.out _ hbs).mono ?_)
 rintro e w2 ⟨rfl,hF,hg⟩
 clear q0 q1 q2 q3 q4 q5
 have hf:FofPost w g b iv (setN N i (offD D a)) f (f i) 0 (.returned (.int .i64 0)) w2:=⟨rfl,hF,(below_row hbs _).trans hg⟩
 replace hf:=Lib.hid hf
 clear hF hg S OF
 go_wp2_with fail
 go_ret
 exact hf.out
set_option maxRecDepth 100000 in
set_option maxHeartbeats 1600000 in
theorem fack_no (w:World) (g b:Nat) (iv:Int) (N:Fn) (f:Nat → Nat) (h:FlAt w g b iv N f) (z:Int) (hz:(Lit.int .i64 z).wf = true) (hN:lkO N z = none) (v:Value) (a:La) (hv:LaAt w v a) :
  Calls Tryz.prog 69 #[.pointer (some ⟨g,0,none⟩),.int .i64 z,v] w fun e w'=>e = .returned (.tuple #[.bool false,.int .i64 8]) ∧ Below w.heap.size w w':=by
 obtain ⟨A,c,B,d,rfl,hla⟩:=hv.opened
 have S:=(St.start w).new' #[.int .i64 a.o,.int .i64 a.s,.int .i64 a.a,.bool a.ov,.slice A a.adj.length c,.slice B a.pre.length d] 41 w.heap.size _ rfl rfl
 have hb9:=S.b
 have c1:=cell_later S.b h.c1
 have K1:=(h.nb.below S.b).run_ok nbT hz
 rw [nbM_none' hN] at K1
 simp only [Option.getD_none,Option.isSome_none] at K1
 clear h hN hla hv S
 go_enter Tryz.func69,Tryz.ntmps69
 go_wp2_with fail
 go_ret2
 exact ⟨rfl,hb9⟩
end Go.Proofs.YtehimhbgakpenaaGreat.Fd

namespace Go.Proofs.YtehimhbgakpenaaGreat.Fd
set_option linter.unusedVariables false
open Go.RowKit Go.Maps Go.Sort
def genK (F:Nat → Db → Db) (N:Fn) (k:Nat):Fn:=fun i=>if (i:Int) ∈ (lks N).take k then (N i).map (F i) else N i
theorem genK_zero (F:Nat → Db → Db) (N:Fn):genK F N 0 = N:=by funext i; simp [genK]
theorem genK_end (F:Nat → Db → Db) (N:Fn) (i:Nat) (hi:i < 256):genK F N (lks N).length i = (N i).map (F i):=by
 unfold genK
 rw [List.take_length]
 by_cases h:(i:Int) ∈ lks N
 ·rw [if_pos h]
 ·rw [if_neg h]
  cases hN:N i with
  | none=>rfl
  | some D=>exact absurd ((lks_mem (i:Int)).2 ⟨⟨by omega,by omega⟩,by rw [Int.toNat_natCast,hN]; rfl⟩) h
theorem genK_at (F:Nat → Db → Db) (N:Fn) (k:Nat) (hk:k < (lks N).length) (q:Nat) (hq:(lks N)[k] = (q:Int)):genK F N k q = N q:=by
 unfold genK
 rw [if_neg (by rw [← hq]; exact lks_not hk)]
theorem genK_succ (F:Nat → Db → Db) (N:Fn) (k:Nat) (hk:k < (lks N).length) (q:Nat) (hq:(lks N)[k] = (q:Int)) {D:Db} (hD:N q = some D):genK F N (k + 1) = setN (genK F N k) q (F q D):=by
 funext i
 unfold genK setN
 rw [List.take_succ_eq_append_getElem hk,hq]
 by_cases e:i = q
 ·subst e; simp [hD]
 ·have e2:(i:Int) ≠ (q:Int):=by omega
  simp [e,e2]
theorem FlAt.ext {w:World} {g b:Nat} {iv:Int} {N N':Fn} {f:Nat → Nat} (h:FlAt w g b iv N f) (e:∀ i,i < 256 → N' i = N i):FlAt w g b iv N' f:=by
 refine ⟨h.c0,h.c1,?_,fun i hi D hD=>h.el i hi D (by rw [← e i hi]; exact hD),fun i hi hs=>h.ne i hi (by rw [← e i hi]; exact hs),fun i j hi hj hs hs'=>h.inj i j hi hj (by rw [← e i hi]; exact hs) (by rw [← e j hj]; exact hs')⟩
 have e2:nbM N' f = nbM N f:=by
  funext z
  unfold nbM
  by_cases hz:0 ≤ z ∧ z < 256
  ·rw [if_pos hz,if_pos hz,e z.toNat (by omega)]
  ·rw [if_neg hz,if_neg hz]
 rw [e2]; exact h.nb
noncomputable def rmB (D:Db) (a:La):Bool:=match D a.o.toNat with | some h=>decide (newI h.x a ≤ 0) | none=>false
noncomputable def rmD (D:Db) (a:La):Db:=if rmB D a = true then fun i=>if i = a.o.toNat then none else D i else D
noncomputable def sprD (a:La) (ex:Int) (i:Nat) (D:Db):Db:=if ((i:Int) != ex) = true then offD D a else rmD D a
noncomputable def sprN (N:Fn) (a:La) (ex:Int):Fn:=fun i=>(N i).map (sprD a ex i)
def SprPost (w:World) (g b:Nat) (iv:Int) (N:Fn) (f:Nat → Nat) (a:La) (ex:Int) (e:Ending) (w':World):Prop:=e = .returned (.int .i64 0) ∧ FlAt w' g b iv (sprN N a ex) f ∧ Kf (FS N f) w w'
set_option maxRecDepth 100000 in
set_option maxHeartbeats 1600000 in
theorem fspread_bad (w:World) (g:Nat) (v:Value) (a:La) (hv:LaAt w v a) (hva:¬ LaValid a) (ex:Int) :
  Calls Tryz.prog 93 #[.pointer (some ⟨g,0,none⟩),v,.int .i64 ex] w fun e w'=>e = .returned (.int .i64 1) ∧ Below w.heap.size w w':=by
 obtain ⟨A,c,B,d,rfl,hla⟩:=hv.opened
 have S:=(St.start w).new' #[.int .i64 a.o,.int .i64 a.s,.int .i64 a.a,.bool a.ov,.slice A a.adj.length c,.slice B a.pre.length d] 41 w.heap.size _ rfl rfl
 have V:=valid_at _ _ a (hla.below S.b)
 rw [vB_f hva] at V
 replace V:=Lib.hid V
 clear hla hv
 have q0:=S.c 0 0 rfl rfl
 have q1:=S.c 0 1 rfl rfl
 have q2:=S.c 0 2 rfl rfl
 have q3:=S.c 0 3 rfl rfl
 have q4:=S.c 0 4 rfl rfl
 have q5:=S.c 0 5 rfl rfl
 go_enter Tryz.func93,Tryz.ntmps93
 go_wp2_with fail
 (with_reducible refine (V.out).mono ?_)
 rintro e w1 ⟨rfl,hb⟩
 replace S:=S.call hb
 have hb9:=S.b
 clear hb V S
 clear q0 q1 q2 q3 q4 q5
 go_wp2_with fail
 go_ret
 exact ⟨rfl,hb9⟩
set_option maxRecDepth 100000 in
set_option maxHeartbeats 6400000 in
theorem fspread_any (w:World) (g b:Nat) (iv:Int) (N:Fn) (f:Nat → Nat) (h:FlAt w g b iv N f) (v:Value) (a:La) (hv:LaAt w v a) (hva:LaValid a) (ex:Int) :
  Calls Tryz.prog 93 #[.pointer (some ⟨g,0,none⟩),v,.int .i64 ex] w (SprPost w g b iv N f a ex):=by
 obtain ⟨A,c,B,d,rfl,hla⟩:=hv.opened
 have S:=(St.start w).new' #[.int .i64 a.o,.int .i64 a.s,.int .i64 a.a,.bool a.ov,.slice A a.adj.length c,.slice B a.pre.length d] 41 w.heap.size _ rfl rfl
 have V:=valid_at _ _ a (hla.below S.b)
 rw [vB_t hva] at V
 have O:=fun W (hb:Below w.heap.size w W)=>flinks_any W g b iv N f (h.below hb)
 unfold IntsPost at O
 obtain ⟨len,hlen⟩:∃ z,(lks N).length = z:=⟨_,rfl⟩
 have hl256:len ≤ 256:=by rw [← hlen]; exact lks_len N
 rw [hlen] at O
 replace V:=Lib.hid V
 replace O:=Lib.hid O
 have q0:=S.c 0 0 rfl rfl
 have q1:=S.c 0 1 rfl rfl
 have q2:=S.c 0 2 rfl rfl
 have q3:=S.c 0 3 rfl rfl
 have q4:=S.c 0 4 rfl rfl
 have q5:=S.c 0 5 rfl rfl
 go_enter Tryz.func93,Tryz.ntmps93
 go_wp2_with fail
 (with_reducible refine (V.out).mono ?_)
 rintro e w1 ⟨rfl,hb⟩
 clear q0 q1 q2 q3 q4 q5
 replace S:=S.call hb
 clear hb V
 go_wp2_with fail
 (with_reducible refine (O.out _ S.b).mono ?_)
 rintro e w2 ⟨A1,c1,rfl,og,hb⟩
 replace S:=S.call hb
 have hF:=h.below S.b
 have hla2:=hla.below S.b
 have hrd:Rd w2 A1 ((lks N).map encZ):=own_slice og
 have hbx:=S.box 0 rfl
 have hfin:Hid (∀ wr,FlAt wr g b iv (genK (sprD a ex) N len) f → Kf (FS N f) w2 wr → SprPost w g b iv N f a ex (.returned (.int .i64 0)) wr):=fun wr h1 h2 =>
  ⟨rfl,h1.ext fun i hi=>by rw [← hlen,genK_end (sprD a ex) N i hi]; rfl,((Kf.refl _ w).below S.b).trans h2⟩
 have hmid:Hid (FlAt w2 g b iv (genK (sprD a ex) N 0) f ∧ Kf (FS N f) w2 w2):=by
  show _ ∧ _
  rw [genK_zero]; exact ⟨hF,Kf.refl _ _⟩
 replace hF:=Lib.hid hF
 replace hla2:=Lib.hid hla2
 replace hrd:=Lib.hid hrd
 replace hbx:=Lib.hid hbx
 replace hlen:=Lib.hid hlen
 clear h hla hv og hb O S
 go_wp2_with fail
 go_loopw [19] (fun v19 wr=>∃ (k:Nat),v19 = .int .i64 k ∧ k ≤ len ∧ Hid (FlAt wr g b iv (genK (sprD a ex) N k) f ∧ Kf (FS N f) w2 wr)) (fun v19 _=>len - (intOf v19).toNat)
 case atStart=>exact ⟨0,rfl,by omega,hmid⟩
 case round =>
  clear hmid
  obtain ⟨k,rfl,hk,hmid⟩:=hrel
  obtain ⟨hFl,hKf⟩:=hmid.out
  by_cases hkn:k < len
  ·have hkl:k < (lks N).length:=by rw [hlen.out]; exact hkn
   have hmem:=(lks_mem (N:=N) (lks N)[k]).1 (List.getElem_mem hkl)
   obtain ⟨q,hq⟩:=Int.eq_ofNat_of_zero_le hmem.1.1
   have hq256:q < 256:=by have:=hmem.1.2; omega
   have hqs:(N q).isSome = true:=by have:=hmem.2; rwa [hq,Int.toNat_natCast] at this
   obtain ⟨D,hD⟩:=Option.isSome_iff_exists.1 hqs
   have hat:=genK_at (sprD a ex) N k hkl q hq
   have hsucc:=genK_succ (sprD a ex) N k hkl q hq hD
   have hDk:genK (sprD a ex) N k q = some D:=by rw [hat,hD]
   have hKq:=hKf.kq hF.out.maps
   obtain ⟨bz,offz,rfl,hz⟩:=rd_at (hKq.rd hrd.out) (by simp only [List.length_map]; omega)
   have z0:=hz k _ (by rw [List.getElem?_map,List.getElem?_eq_getElem hkl]; rfl)
   rw [hq] at z0
   unfold encZ at z0
   have hB:=hKq.box hbx.out
   have hla:=hKq.la hla2.out
   have hrow:∀ w',wr.grownBy w' (some (f q)) → Kf (FS N f) w2 w':=fun w' hg=>hKf.row hg (.inl ⟨q,hq256,hqs,rfl⟩)
   replace hrow:=Lib.hid hrow
   replace hsucc:=Lib.hid hsucc
   replace hDk:=Lib.hid hDk
   replace hq:=Lib.hid hq
   clear hz hKq hmem hat
   have q0:=hB.c 0 rfl
   have q1:=hB.c 1 rfl
   have q2:=hB.c 2 rfl
   have q3:=hB.c 3 rfl
   have q4:=hB.c 4 rfl
   have q5:=hB.c 5 rfl
   cases hqe:((q:Int) != ex) with
   | true =>
     have OF:=Lib.hid (foffer0_any wr g b iv _ f hFl q hq256 D hDk.out _ a hla hva)
     have e9:Hid (genK (sprD a ex) N (k + 1) = setN (genK (sprD a ex) N k) q (offD D a)):=show _ = _ by rw [hsucc.out]; unfold sprD; rw [if_pos hqe]
     clear hFl hKf hsucc
     go_wp2_with fail
     (with_reducible refine (OF.out).mono ?_)
     rintro e w3 ⟨rfl,hF3,hg⟩
     clear q0 q1 q2 q3 q4 q5 z0 OF
     have hm9:Hid (FlAt w3 g b iv (genK (sprD a ex) N (k + 1)) f ∧ Kf (FS N f) w2 w3):=show _ ∧ _ by rw [e9.out]; exact ⟨hF3,hrow.out w3 hg⟩
     clear hF3 hg e9 hrow hB hla
     go_wp2_with fail
     go_round
     case rel=>exact ⟨k + 1,by go_num,by omega,hm9⟩
     case measure=>simp [intOf]; omega
   | false =>
     have ho:=hva.1
     obtain ⟨kk,hkk⟩:=Int.eq_ofNat_of_zero_le ho.1
     obtain ⟨M,hm,he⟩:=hFl.el q hq256 D hDk.out
     have hek:=he kk (by omega)
     have hwf:(Lit.int .i64 a.o).wf = true:=wf64 ho.1 (by omega)
     have hwl:(Lit.int .i64 (q:Int)).wf = true:=wf64 (by omega) (by omega)
     have hnb:(nbM (genK (sprD a ex) N k) f (q:Int)).getD (.map none) = .map (some (f q)):=by rw [nbM_at hq256,hDk.out]; rfl
     have hsame:Hid (rmB D a = false → ∀ w',Below wr.heap.size wr w' → FlAt w' g b iv (genK (sprD a ex) N (k + 1)) f ∧ Kf (FS N f) w2 w'):=fun hr w' hb=>by
      refine ⟨?_,hKf.below hb⟩
      rw [hsucc.out]
      have eD:sprD a ex q D = D:=by unfold sprD rmD; rw [if_neg (by rw [hqe]; simp),hr,if_neg (by simp)]
      rw [eD]
      refine (hFl.below hb).ext fun i hi=>?_
      unfold setN
      by_cases e:i = q
      ·subst e; rw [if_pos rfl,hDk.out]
      ·rw [if_neg e]
     have hdel:Hid (rmB D a = true → ∀ wa w',Below wr.heap.size wr wa → MapIs 64 w' (f q) (fun j=>if j = a.o then none else M j) → wa.grownBy w' (some (f q)) → FlAt w' g b iv (genK (sprD a ex) N (k + 1)) f ∧ Kf (FS N f) w2 w'):=fun hr wa w' hb hm' hg=>by
      have hgr:=(below_row hb (some (f q))).trans hg
      have hq9:=(Kq.of_below hb).trans (Kq.of_map (hm.below hb) hg)
      rw [hkk] at hm'
      have hin:=InAt.put hm he hq9 kk (by omega) none none trivial hm'
      refine ⟨?_,hrow.out w' hgr⟩
      rw [hsucc.out]
      have e9:sprD a ex q D = fun i=>if i = kk then none else D i:=by
       unfold sprD rmD
       rw [if_neg (by rw [hqe]; simp),hr,if_pos rfl,hkk,Int.toNat_natCast]
      rw [e9]
      exact hFl.turn hq256 (by rw [hDk.out]; rfl) hin hgr
     have c1:=hFl.c1
     have hnbm:=hFl.nb
     generalize hMv:(M a.o).getD hdZ = u at *
     generalize hMs:(M a.o).isSome = ok at *
     have hu:∃ u0 u1 u2 u3 A9 n9 c9 B9 m9 d9 u6,u = .agg #[.int .i64 u0,.int .i64 u1,.int .i64 u2,.bool u3,.slice A9 n9 c9,.slice B9 m9 d9,.int .i64 u6]:=by
      rw [← hMv]
      cases hM:M a.o with
      | none=>exact ⟨_,_,_,_,_,_,_,_,_,_,_,rfl⟩
      | some vv =>
        rw [← hkk,hM] at hek
        cases hN:D kk with
        | none=>rw [hN] at hek; exact hek.elim
        | some hh =>
          rw [hN] at hek
          obtain ⟨A9,c9,B9,d9,rfl,_⟩:=hek
          exact ⟨_,_,_,_,_,_,_,_,_,_,_,rfl⟩
     obtain ⟨u0,u1,u2,u3,A9,n9,c9,B9,m9,d9,u6,rfl⟩:=hu
     replace hMv:=Lib.hid hMv
     replace hMs:=Lib.hid hMs
     replace hkk:=Lib.hid hkk
     clear hFl hKf hmid hsucc
     go_upto_region 10 with fail
     have b2:=below_new' wr (.cells #[.int .i64 0,.int .i64 0,.int .i64 0,.bool false,.slice none 0 0,.slice none 0 0,.int .i64 0] 231)
     have L1:=(hm.drew).run_ok pdT hwf
     have L2:=(hm.below b2).drew.run_ok pdT hwf
     have K1:=(hnbm.drew).run_at nbT hwl
     have K2:=(hnbm.below b2).drew.run_at nbT hwl
     rw [hnb] at K1 K2
     rw [hMv.out,hMs.out] at L1 L2
     have r1:wr.drew.cell? ⟨g,1,none⟩ = some (.map (some b)):=c1
     have r2:(wr.alloc (.cells #[.int .i64 0,.int .i64 0,.int .i64 0,.bool false,.slice none 0 0,.slice none 0 0,.int .i64 0] 231)).drew.cell? ⟨g,1,none⟩ = some (.map (some b)):=(by have:=cell_later b2 c1; exact this)
     have t0:wr.drew.cell? ⟨w.heap.size,0,none⟩ = some (.int .i64 a.o):=q0
     have t1:(wr.alloc (.cells #[.int .i64 0,.int .i64 0,.int .i64 0,.bool false,.slice none 0 0,.slice none 0 0,.int .i64 0] 231)).drew.cell? ⟨w.heap.size,0,none⟩ = some (.int .i64 a.o):=(by have:=cell_later b2 q0; exact this)
     have hnb':=Lib.hid hnb
     clear hnb q0 q1 q2 q3 q4 q5
     go_cut [9,10] (fun v9 v10 wx=>v9 = .pointer (some ⟨wr.heap.size,0,none⟩) ∧ v10 = .bool ok ∧ wx = (wr.alloc (.cells #[.int .i64 u0,.int .i64 u1,.int .i64 u2,.bool u3,.slice A9 n9 c9,.slice B9 m9 d9,.int .i64 u6] 231)).drew)
     case first =>
      go_region_law (fail)
      all_goals
       go_wp2_with fail
       go_meet
       exact ⟨rfl,rfl,rfl⟩
     case rest =>
      obtain ⟨rfl,rfl,rfl⟩:=hcut
      clear L1 L2 K1 K2 r1 r2 t0 t1 b2
      have b3:=(below_new' wr (.cells #[.int .i64 u0,.int .i64 u1,.int .i64 u2,.bool u3,.slice A9 n9 c9,.slice B9 m9 d9,.int .i64 u6] 231)).drew
      have hx:=(Box.new' wr #[.int .i64 u0,.int .i64 u1,.int .i64 u2,.bool u3,.slice A9 n9 c9,.slice B9 m9 d9,.int .i64 u6] 231 wr.heap.size _ rfl rfl).drew
      have hB4:=hB.later b3
      have hla4:=hla.below b3
      have hm4:=hm.below b3
      have hn4:=hnbm.below b3
      have c4:=cell_later b3 c1
      generalize (wr.alloc _).drew = w4 at *
      have b3':=b3
      generalize hxb:wr.heap.size = xb at *
      replace hxb:=Lib.hid hxb
      rw [← hxb.out] at b3'
      have x0:=hx.c 0 rfl
      have x1:=hx.c 1 rfl
      have x2:=hx.c 2 rfl
      have x3:=hx.c 3 rfl
      have x4:=hx.c 4 rfl
      have x5:=hx.c 5 rfl
      have q0:=hB4.c 0 rfl
      have q1:=hB4.c 1 rfl
      have q2:=hB4.c 2 rfl
      have q3:=hB4.c 3 rfl
      have q4:=hB4.c 4 rfl
      have q5:=hB4.c 5 rfl
      cases ok with
      | false =>
        have hno:rmB D a = false:=by
         have hMn:M a.o = none:=by have:=hMs.out; simpa using this
         rw [← hkk.out,hMn] at hek
         unfold rmB
         rw [hkk.out,Int.toNat_natCast]
         cases hN:D kk with
         | none=>rfl
         | some hh=>rw [hN] at hek; exact hek.elim
        have hm9:=Lib.hid (hsame.out hno w4 b3)
        clear hsame hdel hek hno hx hB4 hla4 hm4 hn4 c4
        go_wp2_with fail
        go_round
        case rel=>exact ⟨k + 1,by go_num,by omega,hm9⟩
        case measure=>simp [intOf]; omega
      | true =>
        obtain ⟨hh,hNk,hu,hlx⟩:∃ hh,D kk = some hh ∧ (.agg #[.int .i64 u0,.int .i64 u1,.int .i64 u2,.bool u3,.slice A9 n9 c9,.slice B9 m9 d9,.int .i64 u6]:Value) = hdV hh.x A9 c9 B9 d9 hh.l ∧ LaAt wr (laV hh.x.o hh.x.s hh.x.a hh.x.ov A9 hh.x.adj.length c9 B9 hh.x.pre.length d9) hh.x:=by
         rw [hkk.out] at hMs hMv
         cases hM:M (kk:Int) with
         | none=>have:=hMs.out; rw [hM] at this; cases this
         | some vv =>
           rw [hM] at hek
           cases hN:D kk with
           | none=>rw [hN] at hek; exact hek.elim
           | some hh =>
             rw [hN] at hek
             obtain ⟨A8,c8,B8,d8,rfl,hla⟩:=hek
             have hv:=hMv.out
             rw [hM] at hv
             simp only [Option.getD_some,Value.agg.injEq,Array.mk.injEq,List.cons.injEq,Value.slice.injEq,Value.int.injEq,Value.bool.injEq,true_and,and_true] at hv
             obtain ⟨rfl,rfl,rfl,rfl,⟨rfl,rfl,rfl⟩,⟨rfl,rfl,rfl⟩,rfl⟩:=hv
             exact ⟨hh,rfl,rfl,hla.1⟩
        simp only [Value.agg.injEq,Array.mk.injEq,List.cons.injEq,Value.slice.injEq,Value.int.injEq,Value.bool.injEq,true_and,and_true] at hu
        obtain ⟨rfl,rfl,rfl,rfl,rfl,rfl,rfl⟩:=hu
        have NW:=lnewer_any w4 _ _ hh.x a (hlx.below b3') hla4
        have hoz:Hid (rmB D a = decide (newI hh.x a ≤ 0)):=by show _ = _; unfold rmB; rw [hkk.out,Int.toNat_natCast,hNk]
        generalize newI hh.x a = z at *
        replace NW:=Lib.hid NW
        clear hek hNk hlx hx hla4 hMv hMs
        go_wp2_with fail
        (with_reducible refine (NW.out).mono ?_)
        rintro e w5 ⟨rfl,hb5⟩
        clear NW x0 x1 x2 x3 x4 x5 q0 q1 q2 q3 q4 q5
        have b5:=b3.trans (hb5.mono (by rw [← hxb.out]; exact b3'.size))
        rcases hz:decide (z ≤ 0) with _ | _
        ·have hm9:=Lib.hid (hsame.out (by rw [hoz.out,hz]) w5 b5)
         clear hsame hdel hoz hB4 hm4 hn4 c4 hb5
         go_wp2_with fail
         go_round
         case rel=>exact ⟨k + 1,by go_num,by omega,hm9⟩
         case measure=>simp [intOf]; omega
        ·have c5:=cell_later hb5 c4
         have q0:=(hB4.later hb5).c 0 rfl
         have K5:=((hn4.below hb5).drew).run_at nbT hwl
         rw [hnb'.out] at K5
         obtain ⟨w9,run9,hm9,hg9⟩:=((hm4.below hb5).drew).run_del pdT 0 (i:=a.o) hwf
         have hmz:=Lib.hid (hdel.out (by rw [hoz.out,hz]) _ _ b5.drew hm9 hg9)
         clear hsame hdel hoz hB4 hm4 hn4 c4 hb5 hm9 hg9
         go_upto_region 12 with fail
         have s1:w5.drew.cell? ⟨g,1,none⟩ = some (.map (some b)):=c5
         have s2:w5.drew.cell? ⟨w.heap.size,0,none⟩ = some (.int .i64 a.o):=q0
         go_region_law (fail)
         all_goals
          go_wp2_with fail
          go_round
          case rel=>exact ⟨k + 1,by go_num,by omega,hmz⟩
          case measure=>simp [intOf]; omega
  ·obtain rfl:len = k:=by omega
   have hf:=hfin.out _ hFl hKf
   clear hFl hKf hmid
   go_wp2_with fail
   go_ret
   exact hf
end Go.Proofs.YtehimhbgakpenaaGreat.Fd
