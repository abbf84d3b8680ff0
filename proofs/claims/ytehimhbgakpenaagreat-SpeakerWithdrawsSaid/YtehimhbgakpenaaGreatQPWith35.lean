/-
  The texts Fl3, FlF, Fl5, FlL, Fl7, Fl9, one after the other.
-/
import Derived.Test.YtehimhbgakpenaaGreatQPWith21
import Derived.Test.YtehimhbgakpenaaGreatQPWith20
import Derived.Test.YtehimhbgakpenaaGreatQPWith5
namespace Go.Proofs.YtehimhbgakpenaaGreat.Fd
set_option linter.unusedVariables false
open Go.RowKit Go.Maps Go.Sort
theorem La_own_hid {w:World} {base:Nat} {v:Value} {x:La} (h:LaOwn w base v x):∃ A c B d,v = laV x.o x.s x.a x.ov A x.adj.length c B x.pre.length d ∧ Hid (∀ W',Below w.heap.size w W' → LaTf W' x A c B d):=by
 have ha:=h.at
 obtain ⟨A,c,B,d,rfl,o1,o2,_⟩:=h
 exact ⟨A,c,B,d,rfl,fun W' hb=>⟨ha.below hb,(own_tf o1).below hb,(own_tf o2).below hb⟩⟩
noncomputable def offW (D:Db) (a:La):Bool:=match D a.o.toNat with | some h=>decide (0 < newI a h.x) | none=>true
noncomputable def offD (D:Db) (a:La):Db:=if offW D a = true then fun i=>if i = a.o.toNat then some ⟨a,0⟩ else D i else D
theorem InAt.put {w w1 w':World} {k:Nat} {D:Db} {M:Int → Option Value} (hm:MapIs 64 w k M) (he:∀ o:Nat,o < 64 → ElAt w1 (M (o:Int)) (D o)) (hq:Kq w1 w') (q:Nat) (hq64:q < 64) (v:Option Value) (h:Option Hd) (hv:ElAt w' v h)
  (hm':MapIs 64 w' k (fun j=>if j = (q:Int) then v else M j)):InAt w' k (fun i=>if i = q then h else D i):=by
 refine ⟨_,hm',fun i hi=>?_⟩
 by_cases e:i = q
 ·subst e; simp only [if_true]; exact hv
 ·have e':¬ (i:Int) = (q:Int):=by omega
  simp only [if_neg e,if_neg e']
  exact hq.el (he i hi)
def OfferPost (w:World) (g b:Nat) (iv:Int) (N':Fn) (f:Nat → Nat) (k:Nat) (e:Ending) (w':World):Prop:=e = .returned (.tuple #[]) ∧ FlAt w' g b iv N' f ∧ w.grownBy w' (some k)
noncomputable def setN (N:Fn) (i:Nat) (D:Db):Fn:=fun j=>if j = i then some D else N j
set_option maxRecDepth 100000 in
set_option maxHeartbeats 6400000 in
theorem foffer0_any (w:World) (g b:Nat) (iv:Int) (N:Fn) (f:Nat → Nat) (h:FlAt w g b iv N f) (lk:Nat) (hl:lk < 256) (D:Db) (hD:N lk = some D) (v:Value) (a:La) (hv:LaAt w v a) (hva:LaValid a) :
  Calls Tryz.prog 148 #[.pointer (some ⟨g,0,none⟩),.int .i64 (lk:Int),v] w (OfferPost w g b iv (setN N lk (offD D a)) f (f lk)):=by
 obtain ⟨A,c,B,d,rfl,hla⟩:=hv.opened
 clear hv
 have S:=(St.start w).new' #[.int .i64 a.o,.int .i64 a.s,.int .i64 a.a,.bool a.ov,.slice A a.adj.length c,.slice B a.pre.length d] 41 w.heap.size _ rfl rfl
 have hs:(N lk).isSome = true:=by rw [hD]; rfl
 have ho:=hva.1
 have hadj:=hva.2.2.2.1
 have hpre:=hva.2.2.2.2.1
 obtain ⟨k,hk⟩:=Int.eq_ofNat_of_zero_le ho.1
 obtain ⟨M,hm,he⟩:=h.el lk hl D hD
 have hek:=he k (by omega)
 have C:=fun W hb=>fclone_any W _ a (hla.below hb) (by omega) (by omega)
 replace C:=Lib.hid C
 replace hk:Hid (a.o = (k:Int)):=hk
 have hwf:(Lit.int .i64 a.o).wf = true:=wf64 ho.1 (by omega)
 have hwl:(Lit.int .i64 (lk:Int)).wf = true:=wf64 (by omega) (by omega)
 have hnb:(nbM N f (lk:Int)).getD (.map none) = .map (some (f lk)):=by rw [nbM_at hl,hD]; rfl
 have hfin:Hid (∀ w',Below w.heap.size w w' → offW D a = false → OfferPost w g b iv (setN N lk (offD D a)) f (f lk) (.returned (.tuple #[])) w'):=fun w' hb ho=>by
  have e:setN N lk (offD D a) = N:=by
   unfold setN offD
   rw [ho,if_neg (by simp)]
   funext j
   by_cases e:j = lk
   ·subst e; rw [if_pos rfl,hD]
   ·rw [if_neg e]
  rw [e]
  exact ⟨rfl,h.below hb,below_row hb _⟩
 have hput:Hid (∀ wa w',Below w.heap.size w wa → offW D a = true → ∀ v,ElAt w' (some v) (some ⟨a,0⟩) → MapIs 64 w' (f lk) (fun j=>if j = a.o then some v else M j) → wa.grownBy w' (some (f lk)) → OfferPost w g b iv (setN N lk (offD D a)) f (f lk) (.returned (.tuple #[])) w'):=fun wa w' hb ho v hv hm' hg=>by
  have hgr:=(below_row hb (some (f lk))).trans hg
  refine ⟨rfl,?_,hgr⟩
  have hq:=(Kq.of_below hb).trans (Kq.of_map (hm.below hb) hg)
  rw [hk.out] at hm'
  have hin:=InAt.put hm he hq k (by have:=hk.out; omega) (some v) (some ⟨a,0⟩) hv hm'
  have e:setN N lk (offD D a) = fun j=>if j = lk then some (fun i=>if i = k then some ⟨a,0⟩ else D i) else N j:=by
   unfold setN offD
   rw [ho,if_pos rfl,hk.out,Int.toNat_natCast]
  rw [e]
  exact h.turn hl hs hin hgr
 have hnbm:=h.nb
 have hc1:=h.c1
 have hneb:=h.ne lk hl hs
 have hS:Hid (∀ W,Box W w.heap.size [.int .i64 a.o,.int .i64 a.s,.int .i64 a.a,.bool a.ov,.slice A a.adj.length c,.slice B a.pre.length d] → W.cell? ⟨g,1,none⟩ = some (.map (some b)) → MapIs 256 W b (nbM N f) → W.cell? ⟨w.heap.size,0,none⟩ = some (.int .i64 a.o) ∧ W.cell? ⟨w.heap.size,1,none⟩ = some (.int .i64 a.s) ∧ W.cell? ⟨w.heap.size,2,none⟩ = some (.int .i64 a.a) ∧ W.cell? ⟨w.heap.size,3,none⟩ = some (.bool a.ov) ∧ W.cell? ⟨w.heap.size,4,none⟩ = some (.slice A a.adj.length c) ∧ W.cell? ⟨w.heap.size,5,none⟩ = some (.slice B a.pre.length d) ∧ W.cell? ⟨g,1,none⟩ = some (.map (some b)) ∧ (Instr.lookup 160 (.map (some b)) (.int .i64 (lk:Int)) false).run Tryz.prog W = .ok (.map (some (f lk))) W):=fun W hb hc hn=>⟨hb.c 0 rfl,hb.c 1 rfl,hb.c 2 rfl,hb.c 3 rfl,hb.c 4 rfl,hb.c 5 rfl,hc,by have:=hn.run_at nbT hwl; rwa [hnb] at this⟩
 generalize hMv:(M a.o).getD hdZ = u at *
 generalize hMs:(M a.o).isSome = ok at *
 go_enter Tryz.func148,Tryz.ntmps148
 go_upto_region 1 with fail
 generalize World.alloc w _ = w1 at *
 have hm1:=hm.below S.b
 have hn1:=hnbm.below S.b
 have hc1:=cell_later S.b hc1
 have b2:=below_new' w1 (.cells #[.int .i64 0,.int .i64 0,.int .i64 0,.bool false,.slice none 0 0,.slice none 0 0,.int .i64 0] 231)
 have L1:=(hm1.drew).run_ok pdT hwf
 have L2:=(hm1.below b2).drew.run_ok pdT hwf
 have K1:=(hn1.drew).run_at nbT hwl
 have K2:=(hn1.below b2).drew.run_at nbT hwl
 rw [hnb] at K1 K2
 have T:=S.drew
 have T2:=(S.alloc (.cells #[.int .i64 0,.int .i64 0,.int .i64 0,.bool false,.slice none 0 0,.slice none 0 0,.int .i64 0] 231)).drew
 have c1:w1.drew.cell? ⟨g,1,none⟩ = some (.map (some b)):=hc1
 have c2:(w1.alloc (.cells #[.int .i64 0,.int .i64 0,.int .i64 0,.bool false,.slice none 0 0,.slice none 0 0,.int .i64 0] 231)).drew.cell? ⟨g,1,none⟩ = some (.map (some b)):=(by have:=cell_later b2 hc1; exact this)
 rw [hMv,hMs] at L1 L2
 have hu:∃ u0 u1 u2 u3 A9 n9 c9 B9 m9 d9 u6,u = .agg #[.int .i64 u0,.int .i64 u1,.int .i64 u2,.bool u3,.slice A9 n9 c9,.slice B9 m9 d9,.int .i64 u6]:=by
  rw [← hMv]
  cases hM:M a.o with
  | none=>exact ⟨_,_,_,_,_,_,_,_,_,_,_,rfl⟩
  | some vv =>
    rw [← hk.out,hM] at hek
    cases hN:D k with
    | none=>rw [hN] at hek; exact hek.elim
    | some hh =>
      rw [hN] at hek
      obtain ⟨A9,c9,B9,d9,rfl,_⟩:=hek
      exact ⟨_,_,_,_,_,_,_,_,_,_,_,rfl⟩
 obtain ⟨u0,u1,u2,u3,A9,n9,c9,B9,m9,d9,u6,rfl⟩:=hu
 replace hMv:=Lib.hid hMv
 replace hMs:=Lib.hid hMs
 replace hn1:=Lib.hid hn1
 have a0:=T.c 0 0 rfl rfl
 have a1:=T.c 0 1 rfl rfl
 have a2:=T.c 0 2 rfl rfl
 have a3:=T.c 0 3 rfl rfl
 have a4:=T.c 0 4 rfl rfl
 have a5:=T.c 0 5 rfl rfl
 have r0:=T2.c 0 0 rfl rfl
 have r1:=T2.c 0 1 rfl rfl
 have r2:=T2.c 0 2 rfl rfl
 have r3:=T2.c 0 3 rfl rfl
 have r4:=T2.c 0 4 rfl rfl
 have r5:=T2.c 0 5 rfl rfl
 go_cut [6,7] (fun v6 v7 wx=>v6 = .pointer (some ⟨w1.heap.size,0,none⟩) ∧ v7 = .bool ok ∧ wx = (w1.alloc (.cells #[.int .i64 u0,.int .i64 u1,.int .i64 u2,.bool u3,.slice A9 n9 c9,.slice B9 m9 d9,.int .i64 u6] 231)).drew)
 case first =>
  go_region_law (fail)
  all_goals
   go_wp2_with fail
   go_meet
   exact ⟨rfl,rfl,rfl⟩
 case rest =>
  obtain ⟨rfl,rfl,rfl⟩:=hcut
  clear a0 a1 a2 a3 a4 a5
  clear r0 r1 r2 r3 r4 r5
  clear T T2 L1 L2 K1 K2 c1 c2 b2
  have b3:=below_new' w1 (.cells #[.int .i64 u0,.int .i64 u1,.int .i64 u2,.bool u3,.slice A9 n9 c9,.slice B9 m9 d9,.int .i64 u6] 231)
  have S2:=(S.new' #[.int .i64 u0,.int .i64 u1,.int .i64 u2,.bool u3,.slice A9 n9 c9,.slice B9 m9 d9,.int .i64 u6] 231 w1.heap.size _ rfl rfl).drew
  have hm2:=(hm1.below b3).drew
  have c2:(w1.alloc (.cells #[.int .i64 u0,.int .i64 u1,.int .i64 u2,.bool u3,.slice A9 n9 c9,.slice B9 m9 d9,.int .i64 u6] 231)).drew.cell? ⟨g,1,none⟩ = some (.map (some b)):=(by have:=cell_later b3 hc1; exact this)
  clear S b3 hn1
  generalize (w1.alloc _).drew = w2 at *
  generalize w1.heap.size = g2 at *
  cases ok with
  | false =>
    have hDk:D k = none:=by
     have hMn:M a.o = none:=by have:=hMs.out; simpa using this
     rw [← hk.out,hMn] at hek
     cases hN:D k with
     | none=>rfl
     | some hh=>rw [hN] at hek; exact hek.elim
    have hoff:Hid (offW D a = true):=by show _ = _; unfold offW; rw [hk.out,Int.toNat_natCast,hDk]
    obtain ⟨w3,hw3⟩:∃ z,w2 = z:=⟨_,rfl⟩
    rw [hw3] at S2 c2 ⊢
    clear hw3
    have S3:=S2
    have c0:=c2
    clear hMv hMs hek hDk hfin
    have k0:=hS.out w3.drew (S3.drew.box 1 rfl) (show w3.drew.cell? ⟨g,1,none⟩ = some (.map (some b)) from c0) (hnbm.below S3.b).drew
    go_upto_region 3 with fail
    go_region_held3 (fun W=>W.cell? ⟨w.heap.size,0,none⟩ = some (.int .i64 a.o) ∧ W.cell? ⟨w.heap.size,1,none⟩ = some (.int .i64 a.s) ∧ W.cell? ⟨w.heap.size,2,none⟩ = some (.int .i64 a.a) ∧ W.cell? ⟨w.heap.size,3,none⟩ = some (.bool a.ov) ∧ W.cell? ⟨w.heap.size,4,none⟩ = some (.slice A a.adj.length c) ∧ W.cell? ⟨w.heap.size,5,none⟩ = some (.slice B a.pre.length d) ∧ W.cell? ⟨g,1,none⟩ = some (.map (some b)) ∧ (Instr.lookup 160 (.map (some b)) (.int .i64 (lk:Int)) false).run Tryz.prog W = .ok (.map (some (f lk))) W) (first | assumption | go_keep)
     (first
      | (go_at_call 178; (with_reducible refine (C.out _ S3.drew.b).mono ?_); rintro e wa ⟨va,rfl,hown,hba⟩; obtain ⟨A5,c5,B5,d5,rfl,hL5⟩:=La_own_hid hown; have T:=S3.drew.call hba; have hcc:=cell_later hba (show w3.drew.cell? ⟨g,1,none⟩ = some (.map (some b)) from c0); have ka:=hS.out wa (T.box 1 rfl) hcc (hnbm.below T.b); obtain ⟨w9,run9,hm9,hg9⟩:=(hm.below T.b).run_put pdT (by omega) ho.1 (by have:=ho.2; omega) (hdV a A5 c5 B5 d5 0); have hq9:=Kq.of_map (hm.below T.b) hg9; have kz:=hS.out w9 (hq9.box (T.box 1 rfl)) (hq9.cell hcc) ((hnbm.below T.b).kept hg9 (fun e=>hneb (by injection e)))))
    all_goals
     have hf9:=hput.out _ _ T.b hoff.out (hdV a A5 c5 B5 d5 0) ⟨A5,c5,B5,d5,rfl,hq9.laF (hL5.out _ (Below.refl _ _))⟩ hm9 hg9
     replace hf9:=Lib.hid hf9
     clear hm9 hg9 T hcc run9 ka kz k0 hq9
     go_wp2_with fail
     exact bodyPost_end (v:=.tuple #[]) (by simp [results,Tryz.results148,go_sem]) rfl hf9.out
  | true =>
    obtain ⟨hh,hNk,hu,hlx⟩:∃ hh,D k = some hh ∧ (.agg #[.int .i64 u0,.int .i64 u1,.int .i64 u2,.bool u3,.slice A9 n9 c9,.slice B9 m9 d9,.int .i64 u6]:Value) = hdV hh.x A9 c9 B9 d9 hh.l ∧ LaAt w (laV hh.x.o hh.x.s hh.x.a hh.x.ov A9 hh.x.adj.length c9 B9 hh.x.pre.length d9) hh.x:=by
     rw [hk.out] at hMs hMv
     cases hM:M (k:Int) with
     | none=>have:=hMs.out; rw [hM] at this; cases this
     | some vv =>
       rw [hM] at hek
       cases hN:D k with
       | none=>rw [hN] at hek; exact hek.elim
       | some hh =>
         rw [hN] at hek
         obtain ⟨A8,c8,B8,d8,rfl,hla⟩:=hek
         have hv:=hMv.out
         rw [hM] at hv
         simp only [Option.getD_some,Value.agg.injEq,Array.mk.injEq,List.cons.injEq,Value.slice.injEq,Value.int.injEq,Value.bool.injEq,true_and,and_true] at hv
         obtain ⟨rfl,rfl,rfl,rfl,⟨rfl,rfl,rfl⟩,⟨rfl,rfl,rfl⟩,rfl⟩:=hv
         exact ⟨hh,rfl,rfl,hla.1⟩
    simp only [Value.agg.injEq,Array.mk.injEq,List.cons.injEq,Value.slice.injEq,Value.int.injEq,Value.bool.injEq,true_and,and_true] at hu
    obtain ⟨rfl,rfl,rfl,rfl,rfl,rfl,rfl⟩:=hu
    have NW:=lnewer_any w2 _ _ a hh.x (hla.below S2.b) (hlx.below S2.b)
    have hoz:Hid (offW D a = decide (0 < newI a hh.x)):=by show _ = _; unfold offW; rw [hk.out,Int.toNat_natCast,hNk]
    generalize newI a hh.x = z at *
    replace NW:=Lib.hid NW
    have a0:=S2.c 1 0 rfl rfl
    have a1:=S2.c 1 1 rfl rfl
    have a2:=S2.c 1 2 rfl rfl
    have a3:=S2.c 1 3 rfl rfl
    have a4:=S2.c 1 4 rfl rfl
    have a5:=S2.c 1 5 rfl rfl
    have r0:=S2.c 0 0 rfl rfl
    have r1:=S2.c 0 1 rfl rfl
    have r2:=S2.c 0 2 rfl rfl
    have r3:=S2.c 0 3 rfl rfl
    have r4:=S2.c 0 4 rfl rfl
    have r5:=S2.c 0 5 rfl rfl
    go_wp2_with fail
    (with_reducible refine (NW.out).mono ?_)
    rintro e w3 ⟨rfl,hb⟩
    clear a0 a1 a2 a3 a4 a5
    clear r0 r1 r2 r3 r4 r5
    have S3:=S2.call hb
    have c0:=cell_later hb c2
    clear NW hb S2
    by_cases hz0:0 < z
    ·have hd0:decide (0 < z) = true:=by simpa using hz0
     have hoff:Hid (offW D a = true):=by show _ = _; rw [hoz.out,hd0]
     clear hMv hMs hek hNk hfin hoz hz0
     have k0:=hS.out w3.drew (S3.drew.box 1 rfl) (show w3.drew.cell? ⟨g,1,none⟩ = some (.map (some b)) from c0) (hnbm.below S3.b).drew
     go_upto_region 3 with fail
     go_region_held3 (fun W=>W.cell? ⟨w.heap.size,0,none⟩ = some (.int .i64 a.o) ∧ W.cell? ⟨w.heap.size,1,none⟩ = some (.int .i64 a.s) ∧ W.cell? ⟨w.heap.size,2,none⟩ = some (.int .i64 a.a) ∧ W.cell? ⟨w.heap.size,3,none⟩ = some (.bool a.ov) ∧ W.cell? ⟨w.heap.size,4,none⟩ = some (.slice A a.adj.length c) ∧ W.cell? ⟨w.heap.size,5,none⟩ = some (.slice B a.pre.length d) ∧ W.cell? ⟨g,1,none⟩ = some (.map (some b)) ∧ (Instr.lookup 160 (.map (some b)) (.int .i64 (lk:Int)) false).run Tryz.prog W = .ok (.map (some (f lk))) W) (first | assumption | go_keep)
      (first
       | (go_at_call 178; (with_reducible refine (C.out _ S3.drew.b).mono ?_); rintro e wa ⟨va,rfl,hown,hba⟩; obtain ⟨A5,c5,B5,d5,rfl,hL5⟩:=La_own_hid hown; have T:=S3.drew.call hba; have hcc:=cell_later hba (show w3.drew.cell? ⟨g,1,none⟩ = some (.map (some b)) from c0); have ka:=hS.out wa (T.box 1 rfl) hcc (hnbm.below T.b); obtain ⟨w9,run9,hm9,hg9⟩:=(hm.below T.b).run_put pdT (by omega) ho.1 (by have:=ho.2; omega) (hdV a A5 c5 B5 d5 0); have hq9:=Kq.of_map (hm.below T.b) hg9; have kz:=hS.out w9 (hq9.box (T.box 1 rfl)) (hq9.cell hcc) ((hnbm.below T.b).kept hg9 (fun e=>hneb (by injection e)))))
     all_goals
      have hf9:=hput.out _ _ T.b hoff.out (hdV a A5 c5 B5 d5 0) ⟨A5,c5,B5,d5,rfl,hq9.laF (hL5.out _ (Below.refl _ _))⟩ hm9 hg9
      replace hf9:=Lib.hid hf9
      clear hm9 hg9 T hcc run9 ka kz k0 hq9
      go_wp2_with fail
      exact bodyPost_end (v:=.tuple #[]) (by simp [results,Tryz.results148,go_sem]) rfl hf9.out
    ·have hd0:decide (0 < z) = false:=by simpa using hz0
     have hf:=hfin.out _ S3.b (by rw [hoz.out,hd0])
     replace hf:=Lib.hid hf
     clear hMv hMs hek hNk hfin hoz hput hz0
     go_wp2_with fail
     exact bodyPost_end (v:=.tuple #[]) (by simp [results,Tryz.results148,go_sem]) rfl hf.out
end Go.Proofs.YtehimhbgakpenaaGreat.Fd

namespace Go.Proofs.YtehimhbgakpenaaGreat.Fd
set_option linter.unusedVariables false
open Go.RowKit Go.Maps Go.Sort
structure Kf (S:Nat → Prop) (w w':World):Prop where
 os:w'.os = w.os
 tape:w'.tape = w.tape
 output:w'.output = w.output
 size:w.heap.size ≤ w'.heap.size
 block:∀ k,k < w.heap.size → ¬ S k → w'.heap[k]? = w.heap[k]?
section
variable {S:Nat → Prop} {w wr w':World}
theorem Kf.refl (S:Nat → Prop) (w:World):Kf S w w:=⟨rfl,rfl,rfl,Nat.le_refl _,fun _ _ _=>rfl⟩
theorem Kf.row (h:Kf S w wr) {k:Nat} (hg:wr.grownBy w' (some k)) (hk:S k ∨ w.heap.size ≤ k):Kf S w w' :=
 ⟨hg.os.trans h.os,hg.tape.trans h.tape,hg.output.trans h.output,Nat.le_trans h.size hg.size,fun j hj hS=>by
  rw [hg.block j (Nat.lt_of_lt_of_le hj h.size) (fun e=>by
   injection e with e
   subst e
   rcases hk with hk | hk
   ·exact hS hk
   ·omega)]
  exact h.block j hj hS⟩
theorem Kf.below (h:Kf S w wr) (hb:Below wr.heap.size wr w'):Kf S w w' :=
 ⟨hb.os.trans h.os,hb.tape.trans h.tape,hb.output.trans h.output,Nat.le_trans h.size hb.size,fun j hj hS=>(hb.block j (Nat.lt_of_lt_of_le hj h.size)).trans (h.block j hj hS)⟩
theorem Kf.belowB (h:Kf S w wr) {B:Nat} (hb:Below B wr w') (hB:w.heap.size ≤ B):Kf S w w' :=
 ⟨hb.os.trans h.os,hb.tape.trans h.tape,hb.output.trans h.output,Nat.le_trans h.size hb.size,fun j hj hS=>(hb.block j (Nat.lt_of_lt_of_le hj hB)).trans (h.block j hj hS)⟩
theorem Kf.trans (h:Kf S w wr) (h2:Kf S wr w'):Kf S w w' :=
 ⟨h2.os.trans h.os,h2.tape.trans h.tape,h2.output.trans h.output,Nat.le_trans h.size h2.size,fun j hj hS=>(h2.block j (Nat.lt_of_lt_of_le hj h.size) hS).trans (h.block j hj hS)⟩
theorem Kf.kq (h:Kf S w w') (hS:∀ k,S k → ∃ es c,w.heap[k]? = some (.map es c)):Kq w w' :=
 ⟨h.os,h.tape,h.output,h.size,fun k hk hne=>h.block k hk (fun hs=>by
  obtain ⟨es,c,e⟩:=hS k hs
  exact hne es c e)⟩
end
def FS (N:Fn) (f:Nat → Nat) (k:Nat):Prop:=∃ i,i < 256 ∧ (N i).isSome = true ∧ k = f i
theorem FlAt.maps {w:World} {g b:Nat} {iv:Int} {N:Fn} {f:Nat → Nat} (h:FlAt w g b iv N f):∀ k,FS N f k → ∃ es c,w.heap[k]? = some (.map es c):=by
 rintro k ⟨i,hi,hs,rfl⟩
 obtain ⟨D,hD⟩:=Option.isSome_iff_exists.1 hs
 obtain ⟨M,hm,_⟩:=h.el i hi D hD
 exact hm.isMap
def FnOk (N:Fn):Prop:=∀ (i:Nat) (D:Db) (o:Nat) (h:Hd),N i = some D → D o = some h → LaValid h.x ∧ h.x.o = (o:Int) ∧ 0 ≤ h.l ∧ h.l ≤ 65536
structure FlMid (w wr:World) (g b:Nat) (N:Fn) (f:Nat → Nat) (N':Fn):Prop where
 c0:∃ iv:Int,wr.cell? ⟨g,0,none⟩ = some (.int .i64 iv) ∧ w.cell? ⟨g,0,none⟩ = some (.int .i64 iv)
 c1:wr.cell? ⟨g,1,none⟩ = some (.map (some b))
 nb:MapIs 256 wr b (nbM N f)
 el:∀ i,i < 256 → ∀ D,N' i = some D → ∃ M,MapIs 64 wr (f i) M ∧ ∀ o:Nat,o < 64 → ElAt w (M (o:Int)) (D o)
 kf:Kf (FS N f) w wr
theorem FlAt.mid {w:World} {g b:Nat} {iv:Int} {N:Fn} {f:Nat → Nat} (h:FlAt w g b iv N f):FlMid w w g b N f N:=⟨⟨iv,h.c0,h.c0⟩,h.c1,h.nb,h.el,Kf.refl _ _⟩
section
variable {w wr w':World} {g b:Nat} {N N':Fn} {f:Nat → Nat}
theorem FlMid.below (h:FlMid w wr g b N f N') (hb:Below wr.heap.size wr w'):FlMid w w' g b N f N':=by
 obtain ⟨iv,a,a'⟩:=h.c0
 exact ⟨⟨iv,cell_later hb a,a'⟩,cell_later hb h.c1,h.nb.below hb,fun i hi D hD=>by
  obtain ⟨M,hm,he⟩:=h.el i hi D hD
  exact ⟨M,hm.below hb,he⟩,h.kf.below hb⟩
theorem FlMid.new {iv:Int} (h:FlMid w wr g b N f N') {k:Nat} (hg:wr.grownBy w' (some k)) (hk:w.heap.size ≤ k) (hF:FlAt w g b iv N f) (hs:∀ i,i < 256 → (N' i).isSome = true → (N i).isSome = true):FlMid w w' g b N f N':=by
 obtain ⟨iv,a,a'⟩:=h.c0
 have hlt:=hF.lt
 have hc:∀ j,w'.cell? ⟨g,j,none⟩ = wr.cell? ⟨g,j,none⟩:=fun j=>World.cell?_of_block (a:=⟨g,j,none⟩) (hg.block g (World.block_lt_of_cell? _ _ a) (fun e=>by injection e; omega))
 exact ⟨⟨iv,(hc 0).trans a,a'⟩,(hc 1).trans h.c1,h.nb.kept hg (fun e=>by injection e; omega),fun i hi D hD=>by
  obtain ⟨M,hm,he⟩:=h.el i hi D hD
  exact ⟨M,hm.kept hg (fun e=>by
   injection e with e
   have:=hF.flt hi (hs i hi (by rw [hD]; rfl))
   omega),he⟩,h.kf.row hg (.inr hk)⟩
theorem FlMid.turn (h:FlMid w wr g b N f N') {iv:Int} (hF:FlAt w g b iv N f) {i:Nat} (hi:i < 256) (hs:(N i).isSome = true) (hss:∀ i,i < 256 → (N' i).isSome = true → (N i).isSome = true) {M':Int → Option Value} {D':Db} (hm:MapIs 64 w' (f i) M') (he:∀ o:Nat,o < 64 → ElAt w (M' (o:Int)) (D' o)) (hg:wr.grownBy w' (some (f i))):FlMid w w' g b N f (setN N' i D'):=by
 obtain ⟨iv,a,a'⟩:=h.c0
 have hgf:g ≠ f i:=fun e=>by
  obtain ⟨D,hD⟩:=Option.isSome_iff_exists.1 hs
  obtain ⟨M,hm0,_⟩:=hF.el i hi D hD
  have:=hF.c0
  rw [e,hm0.no_cell] at this
  cases this
 have hc:∀ j,w'.cell? ⟨g,j,none⟩ = wr.cell? ⟨g,j,none⟩:=fun j=>World.cell?_of_block (a:=⟨g,j,none⟩) (hg.block g (World.block_lt_of_cell? _ _ a) (fun e=>by injection e with e; exact hgf e))
 refine ⟨⟨iv,(hc 0).trans a,a'⟩,(hc 1).trans h.c1,h.nb.kept hg (fun e=>by injection e with e; exact hF.ne i hi hs e),fun j hj D hD=>?_,h.kf.row hg (.inl ⟨i,hi,hs,rfl⟩)⟩
 unfold setN at hD
 by_cases e:j = i
 ·subst e
  simp only [if_true,Option.some.injEq] at hD
  subst hD
  exact ⟨M',hm,he⟩
 ·simp only [if_neg e] at hD
  obtain ⟨M,hm0,he0⟩:=h.el j hj D hD
  exact ⟨M,hm0.kept hg (fun e2=>by injection e2 with e2; exact e (hF.inj j i hj hi (hss j hj (by rw [hD]; rfl)) hs e2.symm)),he0⟩
theorem FlMid.fin {iv:Int} (h:FlMid w wr g b N f N') (hF:FlAt w g b iv N f) (hss:∀ i,i < 256 → (N' i).isSome = (N i).isSome):FlAt wr g b iv N' f:=by
 obtain ⟨iv',a,a'⟩:=h.c0
 rw [hF.c0] at a'
 simp only [Option.some.injEq,Value.int.injEq,true_and] at a'
 subst a'
 have hq:=h.kf.kq hF.maps
 have e:nbM N' f = nbM N f:=by
  funext z
  unfold nbM
  by_cases hz:0 ≤ z ∧ z < 256
  ·rw [if_pos hz,if_pos hz]
   have:=hss z.toNat (by omega)
   cases h1:N' z.toNat <;> cases h2:N z.toNat <;> simp_all
  ·rw [if_neg hz,if_neg hz]
 exact ⟨a,h.c1,by rw [e]; exact h.nb,fun i hi D hD=>by
  obtain ⟨M,hm,he⟩:=h.el i hi D hD
  exact ⟨M,hm,fun o ho=>hq.el (he o ho)⟩,fun i hi hs=>hF.ne i hi (by rw [← hss i hi]; exact hs),fun i j hi hj hsi hsj=>hF.inj i j hi hj (by rw [← hss i hi]; exact hsi) (by rw [← hss j hj]; exact hsj)⟩
end
end Go.Proofs.YtehimhbgakpenaaGreat.Fd

namespace Go.Proofs.YtehimhbgakpenaaGreat.Fd
set_option linter.unusedVariables false
open Go.RowKit Go.Maps Go.Sort
def tikH (n:Int) (h:Hd):Hd:=⟨h.x,h.l - min n h.l⟩
def tikD (n:Int) (D:Db):Db:=fun o=>(D o).map (tikH n)
def tikN (n:Int) (N:Fn):Fn:=fun i=>(N i).map (tikD n)
def tikK (n:Int) (N:Fn) (k:Nat):Fn:=fun i=>if (i:Int) ∈ (lks N).take k then (N i).map (tikD n) else N i
theorem tikK_zero (n:Int) (N:Fn):tikK n N 0 = N:=by funext i; simp [tikK]
theorem lks_sorted (N:Fn):(lks N).Pairwise (· < ·):=by
 unfold lks
 refine List.Pairwise.filter _ ?_
 rw [List.pairwise_map]
 exact List.pairwise_lt_range.imp fun h=>by omega
theorem tikK_end (n:Int) (N:Fn) (i:Nat) (hi:i < 256):tikK n N (lks N).length i = tikN n N i:=by
 unfold tikK tikN
 rw [List.take_length]
 by_cases h:(i:Int) ∈ lks N
 ·rw [if_pos h]
 ·rw [if_neg h]
  cases hN:N i with
  | none=>rfl
  | some D=>exact absurd ((lks_mem (i:Int)).2 ⟨⟨by omega,by omega⟩,by rw [Int.toNat_natCast,hN]; rfl⟩) h
theorem lks_not {N:Fn} {k:Nat} (hk:k < (lks N).length):(lks N)[k] ∉ (lks N).take k:=fun hm=>by
 obtain ⟨j,hj,e⟩:=List.getElem_of_mem hm
 have hj2:j < k:=by simp at hj; omega
 rw [List.getElem_take] at e
 have:=(List.pairwise_iff_getElem.1 (lks_sorted N)) j k (by omega) hk hj2
 omega
theorem tikK_at (n:Int) (N:Fn) (k:Nat) (hk:k < (lks N).length) (q:Nat) (hq:(lks N)[k] = (q:Int)):tikK n N k q = N q:=by
 unfold tikK
 rw [if_neg (by rw [← hq]; exact lks_not hk)]
theorem tikK_succ (n:Int) (N:Fn) (k:Nat) (hk:k < (lks N).length) (q:Nat) (hq:(lks N)[k] = (q:Int)) {D:Db} (hD:N q = some D):tikK n N (k + 1) = setN (tikK n N k) q (tikD n D):=by
 funext i
 unfold tikK setN
 rw [List.take_succ_eq_append_getElem hk,hq]
 by_cases e:i = q
 ·subst e; simp [hD]
 ·have e2:(i:Int) ≠ (q:Int):=by omega
  simp [e,e2]
theorem tikK_some (n:Int) (N:Fn) (k i:Nat):(tikK n N k i).isSome = (N i).isSome:=by
 unfold tikK; split <;> simp
def decV (n:Int):Value → Value
 | .agg cs=>.agg (cs.setIfInBounds 6 (match cs.getD 6 undef with | Value.int k l=>Value.int k (l - min n l) | v=>v))
 | v=>v
theorem decV_hd (n:Int) (x:La) (A:Option Addr) (c:Nat) (B:Option Addr) (d:Nat) (l:Int):decV n (hdV x A c B d l) = hdV x A c B d (l - min n l):=rfl
def mixM (n:Int) (M:Int → Option Value) (left:Lit → Bool):Int → Option Value:=fun o=>if left (.int .i64 o) = true then M o else (M o).map (decV n)
theorem mix_step {n:Int} {M:Int → Option Value} {left:Lit → Bool} {o:Int} {v:Value} (hv:M o = some v):mixM n M (fun z=>left z && !z.sameKey (.int .i64 o)) = fun j=>if j = o then some (decV n v) else mixM n M left j:=by
 funext j
 by_cases e:j = o
 ·subst e
  show (if (left (.int .i64 j) && !(Lit.int .i64 j).sameKey (.int .i64 j)) = true then M j else (M j).map (decV n)) = _
  rw [if_neg (by rw [WideAt.sameKey_self (isKeyI _)]; simp),if_pos rfl,hv]
  rfl
 ·have h2:(Lit.int .i64 j).sameKey (.int .i64 o) = false:=by
   cases h:(Lit.int .i64 j).sameKey (.int .i64 o) with
   | false=>rfl
   | true=>exact absurd (WideAt.sameKey_eq h) (ne_keyI e)
  show (if (left (.int .i64 j) && !(Lit.int .i64 j).sameKey (.int .i64 o)) = true then M j else (M j).map (decV n)) = _
  rw [if_neg e]
  unfold mixM
  have h3:(left (.int .i64 j) && !(Lit.int .i64 j).sameKey (.int .i64 o)) = left (.int .i64 j):=by rw [h2]; simp
  simp only [h3]
theorem mix_end {w:World} {n:Int} {M:Int → Option Value} {left:Lit → Bool} {D:Db} (hl:∀ kl,left kl = false) (he:∀ o:Nat,o < 64 → ElAt w (M (o:Int)) (D o)):∀ o:Nat,o < 64 → ElAt w (mixM n M left (o:Int)) (tikD n D o):=fun o ho=>by
 have h:=he o ho
 unfold mixM tikD
 rw [hl,if_neg (by simp)]
 cases hM:M (o:Int) with
 | none =>
   rw [hM] at h
   cases hD:D o with
   | none=>trivial
   | some x=>rw [hD] at h; exact h.elim
 | some v =>
   rw [hM] at h
   cases hD:D o with
   | none=>rw [hD] at h; exact h.elim
   | some x =>
     rw [hD] at h
     obtain ⟨A,c,B,d,rfl,hla⟩:=h
     exact ⟨A,c,B,d,by rw [decV_hd]; rfl,hla⟩
def dropN (N:Fn) (i:Nat):Fn:=fun j=>if j = i then none else N j
section
variable {w wr w':World} {g b i:Nat} {N N':Fn} {f:Nat → Nat}
theorem FlMid.drop (h:FlMid w wr g b N f N') (i:Nat):FlMid w wr g b N f (dropN N' i):=⟨h.c0,h.c1,h.nb,fun j hj D hD=>by
 unfold dropN at hD
 split at hD
 ·cases hD
 ·exact h.el j hj D hD,h.kf⟩
theorem FlMid.add (h:FlMid w wr g b N f (dropN N' i)) {M':Int → Option Value} {D':Db} (hm:MapIs 64 wr (f i) M') (he:∀ o:Nat,o < 64 → ElAt w (M' (o:Int)) (D' o)):FlMid w wr g b N f (setN N' i D'):=⟨h.c0,h.c1,h.nb,fun j hj D hD=>by
 unfold setN at hD
 by_cases e:j = i
 ·subst e
  simp only [if_true,Option.some.injEq] at hD
  subst hD
  exact ⟨M',hm,he⟩
 ·simp only [if_neg e] at hD
  exact h.el j hj D (by unfold dropN; rw [if_neg e]; exact hD),h.kf⟩
theorem FlMid.row {iv:Int} (h:FlMid w wr g b N f (dropN N' i)) (hF:FlAt w g b iv N f) (hi:i < 256) (hs:(N i).isSome = true) (hss:∀ i,i < 256 → (N' i).isSome = true → (N i).isSome = true) (hg:wr.grownBy w' (some (f i))):FlMid w w' g b N f (dropN N' i):=by
 obtain ⟨iv,a,a'⟩:=h.c0
 have hgf:g ≠ f i:=fun e=>by
  obtain ⟨D,hD⟩:=Option.isSome_iff_exists.1 hs
  obtain ⟨M,hm0,_⟩:=hF.el i hi D hD
  have:=hF.c0
  rw [e,hm0.no_cell] at this
  cases this
 have hc:∀ j,w'.cell? ⟨g,j,none⟩ = wr.cell? ⟨g,j,none⟩:=fun j=>World.cell?_of_block (a:=⟨g,j,none⟩) (hg.block g (World.block_lt_of_cell? _ _ a) (fun e=>by injection e with e; exact hgf e))
 refine ⟨⟨iv,(hc 0).trans a,a'⟩,(hc 1).trans h.c1,h.nb.kept hg (fun e=>by injection e with e; exact hF.ne i hi hs e),fun j hj D hD=>?_,h.kf.row hg (.inl ⟨i,hi,hs,rfl⟩)⟩
 have hD0:=hD
 by_cases e:j = i
 ·unfold dropN at hD; rw [if_pos e] at hD; cases hD
 ·unfold dropN at hD; rw [if_neg e] at hD
  obtain ⟨M,hm0,he0⟩:=h.el j hj D hD0
  exact ⟨M,hm0.kept hg (fun e2=>by injection e2 with e2; exact e (hF.inj j i hj hi (hss j hj (by rw [hD]; rfl)) hs e2.symm)),he0⟩
end
theorem drop_some {N N':Fn} {i:Nat} (h:∀ i,i < 256 → (N' i).isSome = true → (N i).isSome = true):∀ j,j < 256 → (dropN N' i j).isSome = true → (N j).isSome = true:=fun j hj hs=>by
 unfold dropN at hs
 split at hs
 ·cases hs
 ·exact h j hj hs
def TickPost (w:World) (g b:Nat) (iv:Int) (N:Fn) (f:Nat → Nat) (n:Int) (e:Ending) (w':World):Prop:=e = .returned (.tuple #[]) ∧ FlAt w' g b iv (tikN n N) f ∧ Kf (FS N f) w w'
set_option maxRecDepth 100000 in
set_option maxHeartbeats 6400000 in
theorem ftick_any (w:World) (g b:Nat) (iv:Int) (N:Fn) (f:Nat → Nat) (h:FlAt w g b iv N f) (hok:FnOk N) (n:Int) (hn0:0 < n) :
  Calls Tryz.prog 95 #[.pointer (some ⟨g,0,none⟩),.int .i64 n] w (TickPost w g b iv N f n):=by
 have O:=flinks_any w g b iv N f h
 unfold IntsPost at O
 have hN256:Hid (∀ i,256 ≤ i → N i = tikN n N i ∨ True):=fun _ _=>.inr trivial
 obtain ⟨len,hlen⟩:∃ z,(lks N).length = z:=⟨_,rfl⟩
 have hl256:len ≤ 256:=by rw [← hlen]; exact lks_len N
 rw [hlen] at O
 replace O:=Lib.hid O
 go_enter Tryz.func95,Tryz.ntmps95
 go_wp2_with fail
 (with_reducible refine (O.out).mono ?_)
 rintro e w1 ⟨A,c,rfl,og,hb⟩
 clear O
 have hF:=h.below hb
 have hrd:Hid (Rd w1 A ((lks N).map encZ)):=own_slice og
 have hfin:Hid (∀ wr,FlMid w1 wr g b N f (tikK n N len) → TickPost w g b iv N f n (.returned (.tuple #[])) wr):=fun wr hm=>by
  have h1:=hm.fin hF (fun i _=>tikK_some n N len i)
  refine ⟨rfl,?_,((Kf.refl _ w).below hb).trans hm.kf⟩
  refine ⟨h1.c0,h1.c1,?_,fun i hi D hD=>h1.el i hi D (by rw [← hlen,tikK_end n N i hi]; exact hD),fun i hi hs=>hF.ne i hi (by simpa [tikN] using hs),fun i j hi hj hs hs'=>hF.inj i j hi hj (by simpa [tikN] using hs) (by simpa [tikN] using hs')⟩
  have e:nbM (tikN n N) f = nbM (tikK n N len) f:=by
   funext z
   unfold nbM
   by_cases hz:0 ≤ z ∧ z < 256
   ·rw [if_pos hz,if_pos hz,← hlen,tikK_end n N z.toNat (by omega)]
   ·rw [if_neg hz,if_neg hz]
  rw [e]; exact h1.nb
 have hmid:Hid (FlMid w1 w1 g b N f (tikK n N 0)):=by rw [tikK_zero]; exact hF.mid
 replace hF:=Lib.hid hF
 replace hok:=Lib.hid hok
 replace hlen:=Lib.hid hlen
 clear h og hb
 go_wp2_with fail
 go_loopw [14] (fun v14 wr=>∃ (k:Nat),v14 = .int .i64 k ∧ k ≤ len ∧ Hid (FlMid w1 wr g b N f (tikK n N k))) (fun v14 _=>len - (intOf v14).toNat)
 case atStart=>exact ⟨0,rfl,by omega,hmid⟩
 case round =>
  clear hmid
  obtain ⟨k,rfl,hk,hmid⟩:=hrel
  by_cases hkn:k < len
  ·have hkl:k < (lks N).length:=by rw [hlen.out]; exact hkn
   have hmem:=(lks_mem (N:=N) (lks N)[k]).1 (List.getElem_mem hkl)
   obtain ⟨q,hq⟩:=Int.eq_ofNat_of_zero_le hmem.1.1
   have hq256:q < 256:=by have:=hmem.1.2; omega
   have hqs:(N q).isSome = true:=by have:=hmem.2; rwa [hq,Int.toNat_natCast] at this
   obtain ⟨D,hD⟩:=Option.isSome_iff_exists.1 hqs
   have hat:=tikK_at n N k hkl q hq
   have hsucc:=tikK_succ n N k hkl q hq hD
   obtain ⟨M,hm,he⟩:=hmid.out.el q hq256 D (by rw [hat,hD])
   have hKq:=hmid.out.kf.kq hF.out.maps
   have hrd2:=hKq.rd hrd.out
   obtain ⟨bz,offz,rfl,hz⟩:=rd_at hrd2 (by simp only [List.length_map]; omega)
   have z0:=hz k _ (by rw [List.getElem?_map,List.getElem?_eq_getElem hkl]; rfl)
   rw [hq] at z0
   have x1:=hmid.out.c1
   have hwq:(Lit.int .i64 (q:Int)).wf = true:=wf64 (by omega) (by omega)
   have K1:=hmid.out.nb.run_at nbT hwq
   rw [nbM_at hq256,hD] at K1
   simp only [Option.map_some,Option.getD_some] at K1
   obtain ⟨D0,hown,hd⟩:=hm
   clear hz hrd2 hKq hmem hat
   replace hsucc:=Lib.hid hsucc
   replace hd:=Lib.hid hd
   replace he:=Lib.hid he
   replace hq:=Lib.hid hq
   have hqb:q < 256:=hq256
   unfold encZ at z0
   go_wp2_with (first | (at_range; refine wpList_range_own _ rfl _ 228 rfl 3 231 keyI Tryz.underlying228 hdR (f q) 64 D0 rfl hown ?_; intro w2 hrg2 hg2 hs2))
   go_frame
   obtain ⟨r,hr⟩:∃ z,wr.heap.size = z:=⟨_,rfl⟩
   have hw1r:w1.heap.size ≤ wr.heap.size:=hmid.out.kf.size
   have hmid2:Hid (FlMid w1 w2 g b N f (dropN (tikK n N k) q)):=(hmid.out.drop q).below ⟨hg2.os,hg2.tape,hg2.output,hg2.size,fun j hj=>hg2.block j hj (by simp)⟩
   have hfq:f q < wr.heap.size:=hown.lt
   have hrd2:Hid (DatIs 64 D0 (mixM n M (has D0))):=by
    have e:mixM n M (has D0) = M:=by
     funext o
     unfold mixM
     rw [hd.out.has_]
     cases hM:M o with
     | none=>simp
     | some v=>simp
    rw [e]; exact hd.out
   have hls:Hid (∀ o,has D0 (.int .i64 o) = true → (M o).isSome = true):=fun o ho=>by rwa [hd.out.has_] at ho
   replace hrg2:=Lib.hid hrg2
   rw [hr] at hrg2 hw1r hfq ⊢
   replace hr:=Lib.hid hr
   have hsm:=hd.out.small
   replace hsm:=Lib.hid hsm
   clear K1 x1 z0 hg2 hs2 hd hmid hown
   go_loopw [26] (fun _ wx=>∃ (left:Lit → Bool) (cnt:Nat) (D':DataW Value),Hid (wx.ranges Tryz.prog 3 hdR (f q) r 64 D' left cnt) ∧ Hid (DatIs 64 D' (mixM n M left)) ∧ Hid (∀ o,left (.int .i64 o) = true → (M o).isSome = true) ∧ Hid (FlMid w1 wx g b N f (dropN (tikK n N k) q)))
    (fun _ wx=>wx.rangeLeft (f q) r)
   case atStart=>exact ⟨_,_,_,hrg2,hrd2,hls,hmid2⟩
   case round =>
    clear hrg2 hrd2 hls hmid2
    obtain ⟨left,cnt,D',hrg,hdat,hls,hmid⟩:=hrel
    have hrg':=hrg.out
    go_wp2_with (first
     | (at_next; refine wpList_next_ranges _ rfl (.tmp 25) rfl 3 keyI hdR (Value.int .i64) (fun v=>v) (fun key kl hk=>by obtain ⟨x,e,_⟩:=Maps.keyOf_int_inv Tryz.underlying3 hk; exact ⟨x,e⟩) (fun v y _=>⟨v,rfl⟩) (f q) r 64 D' left cnt rfl hrg' ?_ ?_))
    ·intro _ hl0
     have hmm:=MapIs.of (hrg'.owns) hdat.out
     have hEnd:Hid (FlMid w1 wr g b N f (tikK n N (k + 1))):=by
      rw [hsucc.out]
      exact hmid.out.add hmm (mix_end hl0 he.out)
     clear hrg hrg' hdat hls hmid hmm
     go_wp2_with fail
     go_round
     case rel=>exact ⟨k + 1,by go_num,by omega,hEnd⟩
     case measure=>simp [intOf]; omega
    ·intro x cv kl y ps w3 cnt3 hkey hlk hRv hat3 hrg3 hlt3 hg3 hs3 hen
     obtain ⟨x',ex,rfl,hwx⟩:=Maps.keyOf_int_inv Tryz.underlying3 hkey
     injection ex with _ ex
     subst ex
     simp only [hdR,Option.some.injEq,Prod.mk.injEq] at hRv
     obtain ⟨rfl,rfl⟩:=hRv
     have hMx:=hls.out x hlk
     obtain ⟨v,hv⟩:=Option.isSome_iff_exists.1 hMx
     have hcv:cv = v:=by
      have h1:=hdat.out.at_ x (.int .i64 0)
      rw [hat3] at h1
      unfold mixM at h1
      rw [if_pos hlk,hv] at h1
      simpa using h1
     subst hcv
     have hx64:=hsm.out x hMx
     obtain ⟨o,rfl⟩:=Int.eq_ofNat_of_zero_le hx64.1
     have ho64:o < 64:=by omega
     have hel:=he.out o ho64
     rw [hv] at hel
     obtain ⟨hh,hDo⟩:∃ hh,D o = some hh:=by
      cases hDo:D o with
      | none=>rw [hDo] at hel; exact hel.elim
      | some hh=>exact ⟨hh,rfl⟩
     rw [hDo] at hel
     obtain ⟨A5,c5,B5,d5,rfl,hla⟩:=hel
     have hb5:=hok.out q D o hh hD hDo
     have hl5:=hb5.2.2
     clear hb5 hla
     have hmid3:Hid (FlMid w1 w3 g b N f (dropN (tikK n N k) q)):=hmid.out.new hg3 hw1r hF.out (drop_some (fun j hj hs=>by rwa [tikK_some] at hs))
     unfold hdV at hen hv
     obtain ⟨⟨xo,xs,xa,xov,xadj,xpre⟩,ll⟩:=hh
     simp only at hen hv hl5
     clear hs3
     go_upto_region 8 with fail
     have hbn:=below_new' w3 (.cells #[.int .i64 xo,.int .i64 xs,.int .i64 xa,.bool xov,.slice A5 xadj.length c5,.slice B5 xpre.length d5,.int .i64 ll] 231)
     have hbx:=Box.new' w3 #[.int .i64 xo,.int .i64 xs,.int .i64 xa,.bool xov,.slice A5 xadj.length c5,.slice B5 xpre.length d5,.int .i64 ll] 231 w3.heap.size _ rfl rfl
     have hrg4:=hrg3.alloc (.cells #[.int .i64 xo,.int .i64 xs,.int .i64 xa,.bool xov,.slice A5 xadj.length c5,.slice B5 xpre.length d5,.int .i64 ll] 231)
     have hmid4:=hmid3.out.below hbn
     have hr3:=hrg3.lt
     have hF1:=hmid3.out.kf.size
     clear hen hrg3 hmid3 hbn hg3 hmid
     generalize World.alloc w3 _ = w4 at *
     generalize w3.heap.size = g8 at *
     have hw5:IntKind.i64.wrap (ll - min n ll) = ll - min n ll:=IntWalk.i64_in _ (by omega)
     have a0:=hbx.c 6 rfl
     have f0:=hbx.f 6 rfl
     have hbx5:=hbx.set 6 (.int .i64 (ll - min n ll)) (by simp)
     have hgs:=grownBy_set w4 g8 6 (.int .i64 (ll - min n ll))
     have hrg5:=hrg4.kept hgs (by simp; omega) (by simp; omega)
     have hmid5:=hmid4.new hgs hF1 hF.out (drop_some (fun j hj hs=>by rwa [tikK_some] at hs))
     have hhas:Maps.has D' (.int .i64 (o:Int)) = true:=by rw [hdat.out.has_]; unfold mixM; rw [if_pos hlk]; exact hMx
     replace hhas:=Lib.hid hhas
     replace hv:=Lib.hid hv
     replace hrg5:=Lib.hid hrg5
     replace hmid5:=Lib.hid hmid5
     replace hbx5:=Lib.hid hbx5
     replace hlk:=Lib.hid hlk
     clear hrg4 hmid4 hgs hat3 hMx hDo
     go_upto_region 9 with fail
     clear a0 f0 hbx
     generalize World.setCell w4 _ _ = w5 at *
     obtain ⟨w6,run6,hrg6,hg6⟩:=ranges_put hrg5.out keyI Tryz.underlying228 (by unfold maxLen; omega) hkey hhas.out (val:=.agg #[.int .i64 xo,.int .i64 xs,.int .i64 xa,.bool xov,.slice A5 xadj.length c5,.slice B5 xpre.length d5,.int .i64 (ll - min n ll)]) (d:=.held (.agg #[.int .i64 xo,.int .i64 xs,.int .i64 xa,.bool xov,.slice A5 xadj.length c5,.slice B5 xpre.length d5,.int .i64 (ll - min n ll)])) (ps:=[]) rfl
     have hmid6:Hid (FlMid w1 w6 g b N f (dropN (tikK n N k) q)):=hmid5.out.row hF.out hqb hqs (fun j hj hs=>by rwa [tikK_some] at hs) hg6
     have hdat6:Hid (DatIs 64 (D'.put (.int .i64 (o:Int)) (.held (.agg #[.int .i64 xo,.int .i64 xs,.int .i64 xa,.bool xov,.slice A5 xadj.length c5,.slice B5 xpre.length d5,.int .i64 (ll - min n ll)]))) (mixM n M (fun z=>left z && !z.sameKey (.int .i64 (o:Int))))):=by
      have h9:=hdat.out.put hrg5.out.owns.isMap hx64.1 hx64.2 (.agg #[.int .i64 xo,.int .i64 xs,.int .i64 xa,.bool xov,.slice A5 xadj.length c5,.slice B5 xpre.length d5,.int .i64 (ll - min n ll)])
      have e:mixM n M (fun z=>left z && !z.sameKey (.int .i64 (o:Int))) = fun j=>if j = (o:Int) then some (.agg #[.int .i64 xo,.int .i64 xs,.int .i64 xa,.bool xov,.slice A5 xadj.length c5,.slice B5 xpre.length d5,.int .i64 (ll - min n ll)]) else mixM n M left j:=by
       exact mix_step hv.out
      rw [e]; exact h9
     have hls6:Hid (∀ z,(left (.int .i64 z) && !(Lit.int .i64 z).sameKey (.int .i64 (o:Int))) = true → (M z).isSome = true):=fun z hz=>hls.out z (by simp at hz; exact hz.1)
     have a0:=hbx5.out.c 0 rfl
     have a1:=hbx5.out.c 1 rfl
     have a2:=hbx5.out.c 2 rfl
     have a3:=hbx5.out.c 3 rfl
     have a4:=hbx5.out.c 4 rfl
     have a5:=hbx5.out.c 5 rfl
     have a6:=hbx5.out.c 6 rfl
     have hcnt:wr.rangeLeft (f q) r = cnt:=hrg'.left_eq
     have hcnt6:=hrg6.left_eq
     replace hrg6:=Lib.hid hrg6
     clear hrg hrg' hdat hls hmid5 hrg5 hg6 hbx5 hhas hv hlk hw5
     go_wp2_with fail
     go_roundw
     case rel=>exact ⟨_,cnt3,_,hrg6,hdat6,hls6,hmid6⟩
     case measure=>rw [hcnt,hcnt6]; exact hlt3
  ·obtain rfl:k = len:=by omega
   have hf:=hfin.out _ hmid.out
   replace hf:=Lib.hid hf
   clear hmid
   go_wp2_with fail
   exact bodyPost_end (v:=.tuple #[]) (by simp [results,Tryz.results95,go_sem]) rfl hf.out
end Go.Proofs.YtehimhbgakpenaaGreat.Fd

namespace Go.Proofs.YtehimhbgakpenaaGreat.Fd
set_option linter.unusedVariables false
open Go.RowKit Go.Sort Go.ChangeShapes Go.WideShapes Go.ChangeAt
structure Lx where
 y:La
 A:Option Addr
 c:Nat
 B:Option Addr
 d:Nat
def lxL (s:Lx):List Value:=[.int .i64 s.y.o,.int .i64 s.y.s,.int .i64 s.y.a,.bool s.y.ov,.slice s.A s.y.adj.length s.c,.slice s.B s.y.pre.length s.d]
def lxV:List Lx → List Value
 | []=>[]
 | s :: l=>lxL s ++ lxV l
def LxOk (w:World) (s:Lx):Prop:=LaAt w (laV s.y.o s.y.s s.y.a s.y.ov s.A s.y.adj.length s.c s.B s.y.pre.length s.d) s.y
theorem lxV_len (l:List Lx):(lxV l).length = l.length * 6:=by
 induction l with
 | nil=>rfl
 | cons r l ih=>simp only [lxV,lxL,List.length_append,List.length_cons,List.length_nil,ih]; omega
theorem lxV_get (l:List Lx):∀ (k:Nat) (hk:k < l.length) (j:Nat) (hj:j < 6),(lxV l)[6 * k + j]? = (lxL l[k])[j]?:=by
 induction l with
 | nil=>intro k hk; simp at hk
 | cons r l ih =>
   intro k hk j hj
   have h8:(lxL r).length = 6:=rfl
   cases k with
   | zero=>simp only [lxV,List.getElem_cons_zero]; rw [List.getElem?_append_left (by omega)]; simp
   | succ k =>
     simp only [lxV,List.getElem_cons_succ]
     rw [List.getElem?_append_right (by omega),h8,show 6 * (k + 1) + j - 6 = 6 * k + j by omega]
     exact ih k (by simpa using hk) j hj
theorem rd_lx {w:World} {A:Option Addr} {l:List Lx} (h:Rd w A (lxV l)) (hn:0 < l.length) :
  ∃ b off,A = some ⟨b,off,none⟩ ∧ ∀ k (hk:k < l.length) j (u:Value),j < 6 → (lxL l[k])[j]? = some u → w.cell? ⟨b,off + k * 6 + j,none⟩ = some u:=by
 obtain ⟨b,off,e,hc⟩:=rd_at h (by rw [lxV_len]; omega)
 refine ⟨b,off,e,fun k hk j u hj hu=>?_⟩
 rw [Nat.add_assoc]
 exact hc _ _ (by rw [Nat.mul_comm k 6,lxV_get l k hk j hj]; exact hu)
section
variable {H:Type} {enc:TypeId × Value → H} {w:World} {base:Nat} {spare:Nat → Bool} {held:Bool} {r:Reach} {b0:Nat} {v:Value} {d:DataW H} {ps:List MemPlace}
end
theorem lx_cells {w:World} {b off:Nat} {l:List Lx} (h:Rd w (some ⟨b,off,none⟩) (lxV l)) (k:Nat) (hk:k < l.length) (s:Lx) (hs:l[k] = s) :
  w.cell? ⟨b,off + k * 6,none⟩ = some (.int .i64 s.y.o) ∧ w.cell? ⟨b,off + k * 6 + 1,none⟩ = some (.int .i64 s.y.s) ∧ w.cell? ⟨b,off + k * 6 + 2,none⟩ = some (.int .i64 s.y.a) ∧
  w.cell? ⟨b,off + k * 6 + 3,none⟩ = some (.bool s.y.ov) ∧ w.cell? ⟨b,off + k * 6 + 4,none⟩ = some (.slice s.A s.y.adj.length s.c) ∧ w.cell? ⟨b,off + k * 6 + 5,none⟩ = some (.slice s.B s.y.pre.length s.d):=by
 subst hs
 obtain ⟨b',off',e,hc⟩:=rd_lx h (by omega)
 injection e with e
 injection e with e1 e2 e3
 subst e1 e2
 have x0:=hc k hk 0 _ (by omega) rfl
 have x1:=hc k hk 1 _ (by omega) rfl
 have x2:=hc k hk 2 _ (by omega) rfl
 have x3:=hc k hk 3 _ (by omega) rfl
 have x4:=hc k hk 4 _ (by omega) rfl
 have x5:=hc k hk 5 _ (by omega) rfl
 simp only [Nat.add_zero] at x0
 exact ⟨x0,x1,x2,x3,x4,x5⟩
theorem lx_form {w:World} {A:Option Addr} {l:List Lx} (h:Rd w A (lxV l)) (hn:0 < l.length):∃ b off,A = some ⟨b,off,none⟩:=by
 obtain ⟨b,off,e,_⟩:=rd_lx h hn
 exact ⟨b,off,e⟩
abbrev laL (l:List Lx):List La:=l.map (·.y)
theorem laL_get (l:List Lx) (k:Nat) (hk:k < l.length):(laL l)[k]'(by simpa [laL] using hk) = l[k].y:=by simp [laL]
end Go.Proofs.YtehimhbgakpenaaGreat.Fd

namespace Go.Proofs.YtehimhbgakpenaaGreat.Fd
set_option linter.unusedVariables false
open Go.RowKit Go.Maps Go.Sort
def orgs (D:Db):List Int:=((List.range 64).map fun (i:Nat)=>(i:Int)).filter fun i=>(D i.toNat).isSome
theorem orgs_mem {D:Db} (i:Int):i ∈ orgs D ↔ (0 ≤ i ∧ i < 64) ∧ (D i.toNat).isSome = true:=by
 unfold orgs
 rw [List.mem_filter,List.mem_map]
 constructor
 ·rintro ⟨⟨k,hk,rfl⟩,h⟩
  exact ⟨⟨by omega,by have:=List.mem_range.1 hk; omega⟩,h⟩
 ·rintro ⟨⟨h0,h1⟩,h⟩
  exact ⟨⟨i.toNat,List.mem_range.2 (by omega),Int.toNat_of_nonneg h0⟩,h⟩
theorem orgs_len (D:Db):(orgs D).length ≤ 64:=by
 unfold orgs
 refine Nat.le_trans (List.length_filter_le _ _) ?_
 simp
theorem orgs_sorted (D:Db):(orgs D).Pairwise (· < ·):=by
 unfold orgs
 refine List.Pairwise.filter _ ?_
 rw [List.pairwise_map]
 exact List.pairwise_lt_range.imp fun h=>by omega
theorem orgs_not {D:Db} {k:Nat} (hk:k < (orgs D).length):(orgs D)[k] ∉ (orgs D).take k:=fun hm=>by
 obtain ⟨j,hj,e⟩:=List.getElem_of_mem hm
 have hj2:j < k:=by simp at hj; omega
 rw [List.getElem_take] at e
 have:=(List.pairwise_iff_getElem.1 (orgs_sorted D)) j k (by omega) hk hj2
 omega
theorem keysL_orgs {w:World} {M:Int → Option Value} {D:Db} (he:∀ o:Nat,o < 64 → ElAt w (M (o:Int)) (D o)):keysL 64 M = orgs D:=by
 unfold keysL orgs
 refine List.filter_congr fun i hi=>?_
 obtain ⟨k,hk,rfl⟩:=List.mem_map.1 hi
 rw [(he k (List.mem_range.1 hk)).isS,Int.toNat_natCast]
def polH (iv:Int) (h:Hd):Hd:=if 0 < h.l then h else ⟨h.x,iv⟩
def polD (iv:Int) (D:Db):Db:=fun o=>(D o).map (polH iv)
def polN (iv:Int) (N:Fn):Fn:=fun i=>(N i).map (polD iv)
def polJ (iv:Int) (D:Db) (j:Nat):Db:=fun o=>if (o:Int) ∈ (orgs D).take j then (D o).map (polH iv) else D o
def polK (iv:Int) (N:Fn) (k:Nat):Fn:=fun i=>if (i:Int) ∈ (lks N).take k then (N i).map (polD iv) else N i
def due (D:Db) (o:Int):Option La:=match D o.toNat with | some h=>if 0 < h.l then none else some h.x | none=>none
def sndJ (q:Int) (D:Db) (os:List Int):List (Int × La):=os.filterMap fun o=>(due D o).map fun x=>(q,x)
def sndK (N:Fn) (ls:List Int):List (Int × La):=ls.flatMap fun q=>match N q.toNat with | some D=>sndJ q D (orgs D) | none=>[]
theorem polK_zero (iv:Int) (N:Fn):polK iv N 0 = N:=by funext i; simp [polK]
theorem polK_end (iv:Int) (N:Fn) (i:Nat) (hi:i < 256):polK iv N (lks N).length i = polN iv N i:=by
 unfold polK polN
 rw [List.take_length]
 by_cases h:(i:Int) ∈ lks N
 ·rw [if_pos h]
 ·rw [if_neg h]
  cases hN:N i with
  | none=>rfl
  | some D=>exact absurd ((lks_mem (i:Int)).2 ⟨⟨by omega,by omega⟩,by rw [Int.toNat_natCast,hN]; rfl⟩) h
theorem polK_some (iv:Int) (N:Fn) (k i:Nat):(polK iv N k i).isSome = (N i).isSome:=by
 unfold polK; split <;> simp
theorem polK_at (iv:Int) (N:Fn) (k:Nat) (hk:k < (lks N).length) (q:Nat) (hq:(lks N)[k] = (q:Int)):polK iv N k q = N q:=by
 unfold polK
 rw [if_neg (by rw [← hq]; exact lks_not hk)]
theorem polK_succ (iv:Int) (N:Fn) (k:Nat) (hk:k < (lks N).length) (q:Nat) (hq:(lks N)[k] = (q:Int)) {D:Db} (hD:N q = some D):polK iv N (k + 1) = setN (polK iv N k) q (polD iv D):=by
 funext i
 unfold polK setN
 rw [List.take_succ_eq_append_getElem hk,hq]
 by_cases e:i = q
 ·subst e; simp [hD]
 ·have e2:(i:Int) ≠ (q:Int):=by omega
  simp [e,e2]
theorem sndK_succ (N:Fn) (k:Nat) (hk:k < (lks N).length) (q:Nat) (hq:(lks N)[k] = (q:Int)) {D:Db} (hD:N q = some D):sndK N ((lks N).take (k + 1)) = sndK N ((lks N).take k) ++ sndJ (q:Int) D (orgs D):=by
 unfold sndK
 rw [List.take_succ_eq_append_getElem hk,List.flatMap_append,hq]
 simp [hD]
theorem polJ_zero (iv:Int) (D:Db):polJ iv D 0 = D:=by funext i; simp [polJ]
theorem polJ_end64 (iv:Int) (D:Db) (o:Nat) (ho:o < 64):polJ iv D (orgs D).length o = polD iv D o:=by
 unfold polJ polD
 rw [List.take_length]
 by_cases h:(o:Int) ∈ orgs D
 ·rw [if_pos h]
 ·rw [if_neg h]
  cases hN:D o with
  | none=>rfl
  | some x=>exact absurd ((orgs_mem (o:Int)).2 ⟨⟨by omega,by omega⟩,by rw [Int.toNat_natCast,hN]; rfl⟩) h
theorem polJ_at (iv:Int) (D:Db) (j:Nat) (hj:j < (orgs D).length) (o:Nat) (ho:(orgs D)[j] = (o:Int)):polJ iv D j o = D o:=by
 unfold polJ
 rw [if_neg (by rw [← ho]; exact orgs_not hj)]
theorem polJ_succ (iv:Int) (D:Db) (j:Nat) (hj:j < (orgs D).length) (o:Nat) (ho:(orgs D)[j] = (o:Int)) {h:Hd} (hD:D o = some h):polJ iv D (j + 1) = fun i=>if i = o then some (polH iv h) else polJ iv D j i:=by
 funext i
 unfold polJ
 rw [List.take_succ_eq_append_getElem hj,ho]
 by_cases e:i = o
 ·subst e; simp [hD]
 ·have e2:(i:Int) ≠ (o:Int):=by omega
  simp [e,e2]
theorem polJ_same (iv:Int) (D:Db) (j:Nat) (hj:j < (orgs D).length) (o:Nat) (ho:(orgs D)[j] = (o:Int)) {h:Hd} (hD:D o = some h) (hl:0 < h.l):polJ iv D (j + 1) = polJ iv D j:=by
 rw [polJ_succ iv D j hj o ho hD]
 funext i
 by_cases e:i = o
 ·subst e
  rw [if_pos rfl,polJ_at iv D j hj i ho,hD]
  unfold polH
  rw [if_pos hl]
 ·rw [if_neg e]
theorem sndJ_no (q:Int) (D:Db) (j:Nat) (hj:j < (orgs D).length) (o:Nat) (ho:(orgs D)[j] = (o:Int)) {h:Hd} (hD:D o = some h) (hl:0 < h.l):sndJ q D ((orgs D).take (j + 1)) = sndJ q D ((orgs D).take j):=by
 unfold sndJ
 rw [List.take_succ_eq_append_getElem hj,List.filterMap_append,ho]
 have:due D (o:Int) = none:=by unfold due; rw [Int.toNat_natCast,hD]; simp [hl]
 simp [this]
theorem sndJ_yes (q:Int) (D:Db) (j:Nat) (hj:j < (orgs D).length) (o:Nat) (ho:(orgs D)[j] = (o:Int)) {h:Hd} (hD:D o = some h) (hl:¬ 0 < h.l):sndJ q D ((orgs D).take (j + 1)) = sndJ q D ((orgs D).take j) ++ [(q,h.x)]:=by
 unfold sndJ
 rw [List.take_succ_eq_append_getElem hj,List.filterMap_append,ho]
 have:due D (o:Int) = some h.x:=by unfold due; rw [Int.toNat_natCast,hD]; simp [hl]
 simp [this]
structure Sd where
 q:Int
 x:Lx
def sdL (s:Sd):List Value:=.int .i64 s.q :: lxL s.x
def sdV:List Sd → List Value
 | []=>[]
 | s :: l=>sdL s ++ sdV l
theorem sdV_len (l:List Sd):(sdV l).length = l.length * 7:=by
 induction l with
 | nil=>rfl
 | cons r l ih=>simp only [sdV,sdL,lxL,List.length_append,List.length_cons,List.length_nil,ih]; omega
theorem sdV_append (a b:List Sd):sdV (a ++ b) = sdV a ++ sdV b:=by
 induction a with
 | nil=>rfl
 | cons r l ih=>simp only [List.cons_append,sdV,ih,List.append_assoc]
theorem sdL_one (s:Sd):∀ u ∈ sdL s,u.oneCell' = true:=by
 intro u hu
 simp only [sdL,lxL,List.mem_cons,List.not_mem_nil,or_false] at hu
 rcases hu with rfl | rfl | rfl | rfl | rfl | rfl | rfl <;> rfl
def sdP (l:List Sd):List (Int × La):=l.map fun s=>(s.q,s.x.y)
theorem sdT:ElemT Tryz.prog 260 263 (.agg #[.int .i64 0,.int .i64 0,.int .i64 0,.int .i64 0,.bool false,.slice none 0 0,.slice none 0 0]) 7 88:=⟨Tryz.underlying260,by kernel_rfl,rfl,by omega⟩
theorem own_rowNe {w w':World} {base:Nat} {e:TypeId} {size:Nat} {v:Value} {n:Nat} {xs:List Value} {row:Option Nat} (h:w.ownsRow base e size v n xs) (hg:w.grownBy w' row) (hne:v.ownBlock = none ∨ v.ownBlock ≠ row):w'.ownsRow base e size v n xs:=by
 refine ⟨h.1,?_⟩
 rcases h.2 with h2 | ⟨g,cap,cur,rfl,hgb,hh,r⟩
 ·exact .inl h2
 ·exact .inr ⟨g,cap,cur,rfl,hgb,(hg.block g (h.lt g rfl).2 (fun e=>by
   rcases hne with h3 | h3
   ·cases h3
   ·exact h3 e)).trans hh,r⟩
theorem own_offTy {w:World} {base:Nat} {e t:TypeId} {size:Nat} {v:Value} {n:Nat} {xs:List Value} {k:Nat} (h:w.ownsRow base e size v n xs) (hk:∃ cs fr,w.heap[k]? = some (.cells cs t fr)) (hne:t ≠ e):v.ownBlock = none ∨ v.ownBlock ≠ some k:=by
 rcases h.2 with ⟨rfl,_⟩ | ⟨g,cap,cur,rfl,_,hh,_⟩
 ·exact .inl rfl
 ·right
  intro e2
  simp only [Value.ownBlock,Option.some.injEq] at e2
  subst e2
  obtain ⟨cs,fr,hk⟩:=hk
  rw [hh] at hk
  injection hk with hk
  injection hk with _ h3
  exact hne h3.symm
def LxOwn (w:World) (base:Nat) (s:Lx):Prop:=LaOwn w base (laV s.y.o s.y.s s.y.a s.y.ov s.A s.y.adj.length s.c s.B s.y.pre.length s.d) s.y
theorem _root_.Go.Proofs.YtehimhbgakpenaaGreat.LaOwn.row {w w':World} {base:Nat} {u:Value} {x:La} {k:Nat} {t:TypeId} (h:LaOwn w base u x) (hg:w.grownBy w' (some k)) (hk:∃ cs fr,w.heap[k]? = some (.cells cs t fr)) (h1:t ≠ 169) (h2:t ≠ 181):LaOwn w' base u x:=by
 obtain ⟨A,c,B,d,rfl,o1,o2,hu⟩:=h
 exact ⟨A,c,B,d,rfl,own_rowNe o1 hg (own_offTy o1 hk h1),own_rowNe o2 hg (own_offTy o2 hk h2),hu⟩
theorem _root_.Go.Proofs.YtehimhbgakpenaaGreat.LaOwn.monoF {w:World} {base base':Nat} {u:Value} {x:La} (h:LaOwn w base u x) (hb:base' ≤ base):LaOwn w base' u x:=by
 obtain ⟨A,c,B,d,rfl,o1,o2,hu⟩:=h
 exact ⟨A,c,B,d,rfl,own_mono o1 hb,own_mono o2 hb,hu⟩
theorem _root_.Go.Proofs.YtehimhbgakpenaaGreat.LaOwn.appF {w w':World} {base base2:Nat} {u:Value} {x:La} {v2:Value} {n:Nat} {xs:List Value} (h:LaOwn w base u x) (hl:w.ownsRow base2 263 7 v2 n xs) (hg:w.grownBy w' v2.ownBlock):LaOwn w' base u x:=by
 obtain ⟨A,c,B,d,rfl,o1,o2,hu⟩:=h
 exact ⟨A,c,B,d,rfl,own_rowNe o1 hg (own_ne o1 hl (by decide)),own_rowNe o2 hg (own_ne o2 hl (by decide)),hu⟩
structure PoA (B0 B:Nat) (wr:World) (A1:Option Addr) (n1 c1:Nat) (zs1:List Int) (A2:Option Addr) (n2 c2:Nat) (zs2:List Int) (v:Value) (ls:List Sd):Prop where
 o1:wr.ownsRow B0 3 1 (.slice A1 n1 c1) n1 (zs1.map encZ)
 o2:wr.ownsRow B 3 1 (.slice A2 n2 c2) n2 (zs2.map encZ)
 os:wr.ownsRow B 263 7 v ls.length (sdV ls)
 ok:∀ s ∈ ls,LxOwn wr B s.x
section
variable {B0 B:Nat} {wr w':World} {A1:Option Addr} {n1 c1:Nat} {zs1:List Int} {A2:Option Addr} {n2 c2:Nat} {zs2:List Int} {v v':Value} {ls:List Sd}
theorem PoA.below (h:PoA B0 B wr A1 n1 c1 zs1 A2 n2 c2 zs2 v ls) (hb:Below wr.heap.size wr w'):PoA B0 B w' A1 n1 c1 zs1 A2 n2 c2 zs2 v ls :=
 ⟨own_below h.o1 hb,own_below h.o2 hb,own_below h.os hb,fun s hs=>LaOwn.below (h.ok s hs) hb⟩
theorem PoA.kq (h:PoA B0 B wr A1 n1 c1 zs1 A2 n2 c2 zs2 v ls) (hq:Kq wr w'):PoA B0 B w' A1 n1 c1 zs1 A2 n2 c2 zs2 v ls :=
 ⟨hq.own h.o1,hq.own h.o2,hq.own h.os,fun s hs=>hq.laOwn (h.ok s hs)⟩
theorem PoA.row (h:PoA B0 B wr A1 n1 c1 zs1 A2 n2 c2 zs2 v ls) {k:Nat} (hg:wr.grownBy w' (some k)) (hk:∃ cs fr,wr.heap[k]? = some (.cells cs 231 fr)):PoA B0 B w' A1 n1 c1 zs1 A2 n2 c2 zs2 v ls :=
 ⟨own_rowNe h.o1 hg (own_offTy h.o1 hk (by decide)),own_rowNe h.o2 hg (own_offTy h.o2 hk (by decide)),own_rowNe h.os hg (own_offTy h.os hk (by decide)),fun s hs=>LaOwn.row (h.ok s hs) hg hk (by decide) (by decide)⟩
theorem PoA.app (h:PoA B0 B wr A1 n1 c1 zs1 A2 n2 c2 zs2 v ls) {s:Sd} (hs:LxOwn wr B s.x) (ho:w'.ownsRow B 263 7 v' (ls.length + 1) (sdV ls ++ sdL s)) (hg:wr.grownBy w' v.ownBlock):PoA B0 B w' A1 n1 c1 zs1 A2 n2 c2 zs2 v' (ls ++ [s]) :=
 ⟨own_rowNe h.o1 hg (own_ne h.o1 h.os (by decide)),own_rowNe h.o2 hg (own_ne h.o2 h.os (by decide)),by rw [sdV_append]; simpa [sdV] using ho,fun z hz=>by
  rcases List.mem_append.1 hz with hz | hz
  ·exact LaOwn.appF (h.ok z hz) h.os hg
  ·rw [List.mem_singleton.1 hz]; exact LaOwn.appF hs h.os hg⟩
end
theorem ty_below {wr w':World} {k:Nat} {t:TypeId} (h:∃ cs fr,wr.heap[k]? = some (.cells cs t fr)) (hb:Below wr.heap.size wr w'):∃ cs fr,w'.heap[k]? = some (.cells cs t fr):=by
 obtain ⟨cs,fr,e⟩:=h
 exact ⟨cs,fr,(hb.block _ (Array.getElem?_eq_some_iff.1 e).1).trans e⟩
theorem ty_row {wr w':World} {k:Nat} {t:TypeId} {row:Option Nat} (h:∃ cs fr,wr.heap[k]? = some (.cells cs t fr)) (hg:wr.grownBy w' row) (hne:row ≠ some k):∃ cs fr,w'.heap[k]? = some (.cells cs t fr):=by
 obtain ⟨cs,fr,e⟩:=h
 exact ⟨cs,fr,(hg.block _ (Array.getElem?_eq_some_iff.1 e).1 (fun e2=>hne e2.symm)).trans e⟩
theorem FlMid.app {w wr w':World} {g b:Nat} {N N':Fn} {f:Nat → Nat} {iv:Int} {B:Nat} (h:FlMid w wr g b N f N') (hb:Below B wr w') (hB:w.heap.size ≤ B) (hF:FlAt w g b iv N f) (hs:∀ i,i < 256 → (N' i).isSome = true → (N i).isSome = true):FlMid w w' g b N f N':=by
 obtain ⟨iv,a,a'⟩:=h.c0
 have hlt:=hF.lt
 have hc:∀ j,w'.cell? ⟨g,j,none⟩ = wr.cell? ⟨g,j,none⟩:=fun j=>World.cell?_of_block (a:=⟨g,j,none⟩) (hb.block g (by omega))
 have hm:∀ {Bb k:Nat} {M:Int → Option Value},MapIs Bb wr k M → k < w.heap.size → MapIs Bb w' k M:=fun {Bb k M} hm hk=>by
  obtain ⟨D,⟨es,clock,hbk,r⟩,hd⟩:=hm
  exact ⟨D,⟨es,clock,(hb.block k (by omega)).trans hbk,r⟩,hd⟩
 exact ⟨⟨iv,(hc 0).trans a,a'⟩,(hc 1).trans h.c1,hm h.nb hlt.2,fun i hi D hD=>by
  obtain ⟨M,hm0,he⟩:=h.el i hi D hD
  exact ⟨M,hm hm0 (hF.flt hi (hs i hi (by rw [hD]; rfl))),he⟩,h.kf.belowB hb hB⟩
end Go.Proofs.YtehimhbgakpenaaGreat.Fd

namespace Go.Proofs.YtehimhbgakpenaaGreat.Fd
set_option linter.unusedVariables false
open Go.RowKit Go.Maps Go.Sort
theorem laT:ElemT Tryz.prog 48 41 (.agg #[.int .i64 0,.int .i64 0,.int .i64 0,.bool false,.slice none 0 0,.slice none 0 0]) 6 80:=⟨Tryz.underlying48,by kernel_rfl,rfl,by omega⟩
theorem lxL_one (s:Lx):∀ u ∈ lxL s,u.oneCell' = true:=by
 intro u hu
 simp only [lxL,List.mem_cons,List.not_mem_nil,or_false] at hu
 rcases hu with rfl | rfl | rfl | rfl | rfl | rfl <;> rfl
theorem lxV_append (a b:List Lx):lxV (a ++ b) = lxV a ++ lxV b:=by
 induction a with
 | nil=>rfl
 | cons r l ih=>simp only [List.cons_append,lxV,ih,List.append_assoc]
theorem _root_.Go.Proofs.YtehimhbgakpenaaGreat.LaOwn.appL {w w':World} {base base2:Nat} {u:Value} {x:La} {v2:Value} {n:Nat} {xs:List Value} (h:LaOwn w base u x) (hl:w.ownsRow base2 41 6 v2 n xs) (hg:w.grownBy w' v2.ownBlock):LaOwn w' base u x:=by
 obtain ⟨A,c,B,d,rfl,o1,o2,hu⟩:=h
 exact ⟨A,c,B,d,rfl,own_rowNe o1 hg (own_ne o1 hl (by decide)),own_rowNe o2 hg (own_ne o2 hl (by decide)),hu⟩
def getX (o:Option Hd):La:=match o with | some h=>h.x | none=>laZero
def pendL (D:Db):List La:=(orgs D).map fun i=>getX (D i.toNat)
structure PenAt (w wr:World) (D:Db) (B:Option Addr) (d:Nat) (k:Nat) (v:Value) (ls:List Lx):Prop where
 og:wr.ownsRow w.heap.size 3 1 (.slice B (orgs D).length d) (orgs D).length ((orgs D).map encZ)
 own:wr.ownsRow w.heap.size 41 6 v k (lxV ls)
 la:laL ls = (pendL D).take k
 ok:∀ s ∈ ls,LxOwn wr w.heap.size s
 bel:Below w.heap.size w wr
theorem PenAt.below {w wr w':World} {N:Db} {B:Option Addr} {d k:Nat} {v:Value} {ls:List Lx} (h:PenAt w wr N B d k v ls) (hb:Below wr.heap.size wr w'):PenAt w w' N B d k v ls :=
 ⟨own_below h.og hb,own_below h.own hb,h.la,fun s hs=>LaOwn.below (h.ok s hs) hb,h.bel.trans (hb.mono h.bel.size)⟩
theorem PenAt.app {w wr w':World} {N:Db} {B:Option Addr} {d k:Nat} {v v':Value} {ls:List Lx} (h:PenAt w wr N B d k v ls) {s:Lx} (hs:LxOwn wr w.heap.size s) (hk:k < (orgs N).length) (hy:s.y = getX (N (orgs N)[k].toNat))
  (ho:w'.ownsRow w.heap.size 41 6 v' (k + 1) (lxV ls ++ lxL s)) (hb:Below w.heap.size wr w') (hg:wr.grownBy w' v.ownBlock):PenAt w w' N B d (k + 1) v' (ls ++ [s]):=by
 refine ⟨own_rowNe h.og hg (own_ne h.og h.own (by decide)),by rw [lxV_append]; simpa [lxV] using ho,?_,fun z hz=>?_,h.bel.trans hb⟩
 ·have hk2:k < (pendL N).length:=by simpa [pendL] using hk
  rw [List.take_succ_eq_append_getElem hk2,← h.la]
  have e2:(pendL N)[k] = s.y:=by rw [hy]; simp [pendL]
  rw [e2]; simp [laL]
 ·rcases List.mem_append.1 hz with hz | hz
  ·exact LaOwn.appL (h.ok z hz) h.own hg
  ·rw [List.mem_singleton.1 hz]; exact LaOwn.appL hs h.own hg
end Go.Proofs.YtehimhbgakpenaaGreat.Fd
