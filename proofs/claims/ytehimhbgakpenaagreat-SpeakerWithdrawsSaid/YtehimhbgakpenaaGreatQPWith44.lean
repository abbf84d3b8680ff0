/-
  The texts SpJ, SpK, SpL, SpM, SpN, SpQ, one after the other.
-/
import Derived.Test.YtehimhbgakpenaaGreatQPWith43
import Derived.Test.YtehimhbgakpenaaGreatQPWith26
import Derived.Test.YtehimhbgakpenaaGreatQPWith31
namespace Go.Proofs.YtehimhbgakpenaaGreat
set_option linter.unusedVariables false
open Go.RowKit Go.Maps Go.Sort
structure FoOk (S:Sp) (i:Nat) (ph lf:Int):Prop where
 db:DbOk S.db
 va:∀ a ∈ allN S.db,LaValid a
 hi:i < S.ps.length
 l:0 ≤ S.ps[i].l ∧ S.ps[i].l < 256
 up:S.ps[i].ph = 2 → (S.fl S.ps[i].l.toNat).isSome = true
 st:He.vld S.ps[i].ph S.ps[i].lf = true
 og:OgOk (folS S i ph lf)
noncomputable def hel1 (S:Sp) (i:Nat) (p:Po) (b:Int):Sp:=if p.ph ≠ 0 ∧ p.bt ≠ b then chgS S i 0 0 else S
theorem helS_at {S:Sp} {i:Nat} {p:Po} (hi:i < S.ps.length) (hp:S.ps[i] = p) (b h:Int):helS S i b h = chgS (botS (hel1 S i p b) i b) i (if h = S.bo then 2 else 1) S.h2:=by
 unfold helS hel1
 rw [List.getElem?_eq_getElem hi,hp]
theorem botS_at {S:Sp} {i:Nat} (hi:i < S.ps.length) (b:Int):botS S i b = { S with ps:=S.ps.set i ⟨S.ps[i].l,S.ps[i].o,S.ps[i].c,S.ps[i].ph,S.ps[i].lf,b⟩ }:=by
 unfold botS
 rw [List.getElem?_eq_getElem hi]
theorem botS_len (S:Sp) (i:Nat) (b:Int):(botS S i b).ps.length = S.ps.length:=by
 unfold botS
 split
 ·rfl
 ·simp
theorem folS_fix (S:Sp) (i:Nat) (ph lf:Int):(folS S i ph lf).bo = S.bo ∧ (folS S i ph lf).h2 = S.h2:=by
 unfold folS
 split <;> exact ⟨rfl,rfl⟩
theorem origS_fix (S:Sp):(origS S).bo = S.bo ∧ (origS S).h2 = S.h2:=by
 unfold origS pubS
 split <;> exact ⟨rfl,rfl⟩
theorem hel1_fix (S:Sp) (i:Nat) (p:Po) (b:Int):(hel1 S i p b).bo = S.bo ∧ (hel1 S i p b).h2 = S.h2:=by
 unfold hel1 chgS
 split
 ·split
  ·exact folS_fix _ _ _ _
  ·exact ⟨(origS_fix _).1.trans (folS_fix _ _ _ _).1,(origS_fix _).2.trans (folS_fix _ _ _ _).2⟩
 ·exact ⟨rfl,rfl⟩
theorem spk_imm:¬ MutT 31:=by unfold MutT; decide
structure HeAt (w wx:World) (m:Sm) (S:Sp) (col:Nat → Nat) (c:Nat) (kp kb:Nat) (bs:List Value):Prop where
 sp:SpTo w m col c S wx
 b1:Box wx kp [.pointer (some ⟨m.g,0,none⟩)]
 t1:Ty wx kp 31
 b2:Box wx kb bs
 t2:Ty wx kb 142
theorem HeAt.next {w wx w':World} {m m1:Sm} {S S':Sp} {col col1:Nat → Nat} {c kp kb:Nat} {bs:List Value} (u:HeAt w wx m S col c kp kb bs) (v1:Ev col c w wx) (e1:SmEq m m1) (hc1:∀ k,k < w.heap.size → col1 k = col k) (h:SpTo wx m1 col1 c S' w'):HeAt w w' m S' col c kp kb bs:=by
 have hs:=SpTo.next v1 e1 hc1 h
 obtain ⟨m',col',e,hc,h1,h2⟩:=h
 exact ⟨hs,h2.boxT u.b1 u.t1 spk_imm,h2.ty _ _ u.t1,h2.boxT u.b2 u.t2 msg_imm,h2.ty _ _ u.t2⟩
theorem SpAt.pcs {w:World} {m:Sm} {S:Sp} {col:Nat → Nat} {c gp:Nat} (h:SpAt w m S col c) (hP:m.P = some ⟨gp,0,none⟩) {i:Nat} (hi:i < S.ps.length):PoC w gp (i * 6) S.ps[i]:=by
 obtain ⟨g3,e3,hc3⟩:=h.gp (by omega)
 obtain rfl:g3 = gp:=by rw [hP] at e3; injection e3 with e; injection e with e; exact e.symm
 exact hc3 i hi
set_option maxRecDepth 100000 in
set_option maxHeartbeats 6400000 in
theorem recHel_any (w:World) (m:Sm) (S:Sp) (col:Nat → Nat) (c:Nat) (h:SpAt w m S col c) (gp:Nat) (hP:m.P = some ⟨gp,0,none⟩) (i:Nat) (mm:Ms) (A:Option Addr) (ca:Nat) (B:Option Addr) (d:Nat)
  (h2:1 ≤ S.h2 ∧ S.h2 ≤ 65536) (G0:FoOk S i 0 0) (p:Po) (hp:S.ps[i]'G0.hi = p) (G1:FoOk (botS (hel1 S i p mm.b) i mm.b) i (if mm.h = S.bo then 2 else 1) S.h2) :
  Calls Tryz.prog 66 #[.pointer (some ⟨m.g,0,none⟩),.pointer (some ⟨gp,i * 6,none⟩),msV mm A ca B d] w (ToPost w m col c (helS S i mm.b mm.h) (.tuple #[])):=by
 have hi:=G0.hi
 rw [helS_at hi hp]
 generalize hS9:chgS (botS (hel1 S i p mm.b) i mm.b) i (if mm.h = S.bo then 2 else 1) S.h2 = S9
 replace hS9:=Lib.hid hS9
 have S0:=((St.start w).new' #[.pointer (some ⟨m.g,0,none⟩)] 31 w.heap.size _ rfl rfl).new' #[.int .i64 mm.k,.int .i64 mm.n,.int .i64 mm.b,.int .i64 mm.h,.int .i64 mm.y.o,.int .i64 mm.y.s,.int .i64 mm.y.a,.bool mm.y.ov,.slice A mm.y.adj.length ca,.slice B mm.y.pre.length d] 142 (w.heap.size + 1) _ (by simp) rfl
 have h0:=h.below S0.b
 have v0:Ev col c w _:=Eff.below S0.b
 have hpc:=h0.pcs hP hi
 rw [hp] at hpc
 have p3:=cell_regrown hpc.c3
 have p5:=cell_regrown hpc.c5
 have q2:=cell_regrown (S0.c 0 2 rfl rfl)
 have tk:=ty_new w #[.pointer (some ⟨m.g,0,none⟩)] 31
 have tb:=ty_new (w.alloc (.cells #[.pointer (some ⟨m.g,0,none⟩)] 31)) #[.int .i64 mm.k,.int .i64 mm.n,.int .i64 mm.b,.int .i64 mm.h,.int .i64 mm.y.o,.int .i64 mm.y.s,.int .i64 mm.y.a,.bool mm.y.ov,.slice A mm.y.adj.length ca,.slice B mm.y.pre.length d] 142
 have tk2:=TyPres.below (below_new' (w.alloc (.cells #[.pointer (some ⟨m.g,0,none⟩)] 31)) (.cells #[.int .i64 mm.k,.int .i64 mm.n,.int .i64 mm.b,.int .i64 mm.h,.int .i64 mm.y.o,.int .i64 mm.y.s,.int .i64 mm.y.a,.bool mm.y.ov,.slice A mm.y.adj.length ca,.slice B mm.y.pre.length d] 142)) _ _ tk
 have u0:HeAt w _ m S col c w.heap.size (w.heap.size + 1) _:=⟨SpTo.of h0 v0,S0.box 1 rfl,tk2,S0.box 0 rfl,by simpa using tb⟩
 replace h0:=Lib.hid h0
 replace v0:=Lib.hid v0
 replace u0:=Lib.hid u0
 clear h hpc tk tb tk2 S0
 replace G0:=Lib.hid G0
 replace G1:=Lib.hid G1
 have hp9:=Lib.hid hp
 clear hp
 go_enter Tryz.func66,Tryz.ntmps66
 go_upto_region 1 with fail
 generalize World.alloc (World.alloc w _) _ = w1 at *
 go_cut [20] (fun v20 wx=>v20 = .bool (p.ph != 0 && p.bt != mm.b) ∧ Below w1.heap.size w1 wx)
 case first =>
  rcases Bool.eq_false_or_eq_true (p.ph != 0) with e1 | e1
  all_goals
   refine wp_region_quiet_below (by kernel_rfl) (by kernel_rfl) ?_
   repeat (go_big_quiet_step (fail))
   refine wpQuiet_nil ?_
   intro _ hw'
   obtain ⟨⟨dq,osq⟩,hw''⟩:=hw'
   subst hw''
   have hbq:=below_regrown w1 dq osq
   dsimp only
   generalize Sort.grow (redrawn w1 dq) osq = wq at hbq ⊢
   go_wp2_with fail
   go_meet
   exact ⟨by simp [e1],hbq⟩
 case rest =>
  obtain ⟨rfl,hb⟩:=hcut
  have h2':=h0.out.below hb
  have v2:=v0.out.tr (Eff.below (E:=fun k=>col k = c) hb)
  have u2:HeAt w wc m S col c w.heap.size (w.heap.size + 1) _:=⟨SpTo.of h2' v2,u0.out.b1.later hb,TyPres.below hb _ _ u0.out.t1,u0.out.b2.later hb,TyPres.below hb _ _ u0.out.t2⟩
  replace h2':=Lib.hid h2'
  replace v2:=Lib.hid v2
  have kk:=u2.b1.c 0 rfl
  replace u2:=Lib.hid u2
  clear p3 p5 q2 h0 v0 u0 hb
  generalize hbq:(p.ph != 0 && p.bt != mm.b) = bq
  replace hbq:=Lib.hid hbq
  go_upto_if 20 with fail
  go_cut [] (fun wx=>HeAt w wx m (hel1 S i p mm.b) col c w.heap.size (w.heap.size + 1) [.int .i64 mm.k,.int .i64 mm.n,.int .i64 mm.b,.int .i64 mm.h,.int .i64 mm.y.o,.int .i64 mm.y.s,.int .i64 mm.y.a,.bool mm.y.ov,.slice A mm.y.adj.length ca,.slice B mm.y.pre.length d])
  case first =>
   rcases Bool.eq_false_or_eq_true bq with rfl | rfl
   ·have e2:hel1 S i p mm.b = chgS S i 0 0:=by unfold hel1; rw [if_pos (by simpa using hbq.out)]
    have g0:=G0.out
    have hpp:=hp9.out
    have CH:=Lib.hid (changeF wc m S col c h2'.out g0.db g0.va gp hP i hi p hpp (by rw [← hpp]; exact g0.l) (by rw [← hpp]; exact g0.up) 0 0 g0.og (fun W _=>He.fail_ok p.ph p.lf W (by rw [← hpp]; exact g0.st)))
    replace e2:=Lib.hid e2
    clear g0 hpp
    go_wp2_with fail
    (with_reducible refine (CH.out).mono ?_)
    rintro e wd ⟨rfl,hto⟩
    have hf:HeAt w wd m (hel1 S i p mm.b) col c w.heap.size (w.heap.size + 1) [.int .i64 mm.k,.int .i64 mm.n,.int .i64 mm.b,.int .i64 mm.h,.int .i64 mm.y.o,.int .i64 mm.y.s,.int .i64 mm.y.a,.bool mm.y.ov,.slice A mm.y.adj.length ca,.slice B mm.y.pre.length d]:=by
     rw [e2.out]
     exact u2.out.next v2.out ⟨rfl,rfl,rfl,rfl,rfl⟩ (fun _ _=>rfl) hto
    clear CH hto
    go_wp2_with fail
    go_meet
    exact hf
   ·have e2:Hid (hel1 S i p mm.b = S):=by unfold hel1; exact if_neg (by simpa using hbq.out)
    go_wp2_with fail
    go_meet
    rw [e2.out]
    exact u2.out
  case rest =>
   clear u2 h2' v2 kk hbq
   obtain ⟨hto,b1,t1,b2,t2⟩:=hcut
   have hfx:=hel1_fix S i p mm.b
   generalize hel1 S i p mm.b = S1 at *
   obtain ⟨m1,col1,eq,hcc,H,V⟩:=hto
   have g1:=G1.out
   have hi1:i < S1.ps.length:=by have:=g1.hi; rw [botS_len] at this; exact this
   have hP1:m1.P = some ⟨gp,0,none⟩:=eq.2.1.trans hP
   obtain ⟨H5,V5⟩:=H.port hP1 hi1 5 (by omega) (.int .i64 mm.b) ⟨S1.ps[i].l,S1.ps[i].o,S1.ps[i].c,S1.ps[i].ph,S1.ps[i].lf,mm.b⟩ rfl
   rw [← botS_at hi1] at H5
   have f5:=H.free hP1 (i * 6 + 5)
   have c5:=(H.pcs hP1 hi1).c5
   have q2:=b2.c 2 rfl
   have b1':=V5.boxT b1 t1 spk_imm
   have b2':=V5.boxT b2 t2 msg_imm
   have kk:=b1'.c 0 rfl
   have km:=b2'.c 3 rfl
   have hbo:(botS S1 i mm.b).bo = S.bo:=by rw [botS_at hi1]; exact hfx.1
   have hh2:(botS S1 i mm.b).h2 = S.h2:=by rw [botS_at hi1]; exact hfx.2
   generalize botS S1 i mm.b = S5 at *
   have RC:=fun W (hb:Below (wc.setCell ⟨gp,i * 6 + 5,none⟩ (.int .i64 mm.b)).heap.size (wc.setCell ⟨gp,i * 6 + 5,none⟩ (.int .i64 mm.b)) W)=>rcv1_any W m1 S5 col1 c (H5.below hb) (S5.ps[i]'g1.hi).ph (S5.ps[i]'g1.hi).lf g1.st (by rw [hh2]; exact h2) (w.heap.size + 1) w.heap.size mm.h (cell_later hb km) (by rw [eq.1]; exact cell_later hb kk)
   have hqq:(if (mm.h == S.bo) = true then (2:Int) else 1) = if mm.h = S.bo then 2 else 1:=by simp only [beq_iff_eq]
   rw [hbo,hh2,hqq] at RC
   have CH:=changeR _ m1 S5 col1 c H5 g1.db g1.va gp hP1 i g1.hi _ rfl g1.l g1.up _ _ (w.heap.size + 1) w.heap.size g1.og RC
   rw [hS9.out,eq.1] at CH
   have V6:=ev_trans V V5 hcc
   have hsz:=V.size
   replace CH:=Lib.hid CH
   have hfin:Hid (∀ W,SpTo (wc.setCell ⟨gp,i * 6 + 5,none⟩ (.int .i64 mm.b)) m1 col1 c S9 W → ToPost w m col c S9 (.tuple #[]) (.returned (.tuple #[])) W):=fun W h=>⟨rfl,SpTo.next V6 eq hcc h⟩
   clear RC hqq hbo hh2 g1 H5 V5 b1' b2' km V6 hsz H V t1 t2 b1 b2 hfx
   go_wp2_with fail
   (with_reducible refine (CH.out).mono ?_)
   rintro e w9 ⟨rfl,hto⟩
   have hf:=hfin.out w9 hto
   clear CH hto hfin
   go_wp2_with fail
   exact bodyPost_end (v:=.tuple #[]) (by simp [results,Tryz.results66,go_sem]) rfl hf
end Go.Proofs.YtehimhbgakpenaaGreat

namespace Go.Proofs.YtehimhbgakpenaaGreat
set_option linter.unusedVariables false
open Go.RowKit Go.Maps Go.Sort
def upS (S:Sp) (l:Int):Bool:=match fndS S.ps l with | none=>false | some i=>phS S i == 2
noncomputable def faiS (S:Sp) (l:Int):Sp × Int:=match fndS S.ps l with | none=>(S,2) | some i=>(chgS S i 0 0,0)
theorem fnd_lt {ps:List Po} {l:Int} {i:Nat} (h:fndS ps l = some i):i < ps.length:=by
 unfold fndS at h
 rw [List.findIdx?_eq_some_iff_getElem] at h
 exact h.1
set_option maxRecDepth 100000 in
set_option maxHeartbeats 1600000 in
theorem spUp_any (w:World) (m:Sm) (S:Sp) (col:Nat → Nat) (c:Nat) (h:SpAt w m S col c) (hl:S.ps.length ≤ 100000) (l:Int) :
  Calls Tryz.prog 17 #[.pointer (some ⟨m.g,0,none⟩),.int .i64 l] w fun e w'=>e = .returned (.bool (upS S l)) ∧ w = w':=by
 have P:=port_any w m S col c h hl l
 unfold PortPost at P
 rcases hf:fndS S.ps l with _ | i
 ·rw [hf] at P
  have hu:Hid (upS S l = false):=by unfold upS; rw [hf]; rfl
  replace P:=Lib.hid P
  clear h hf
  go_enter Tryz.func17,Tryz.ntmps17
  go_wp2_with fail
  (with_reducible refine (P.out).mono ?_)
  rintro e w1 ⟨rfl,rfl⟩
  clear P
  go_wp2_with fail
  go_ret
  rw [hu.out]
  exact ⟨rfl,rfl⟩
 ·rw [hf] at P
  have hi:=fnd_lt hf
  have hu0:upS S l = (S.ps[i].ph == 2):=by unfold upS phS; rw [hf]; simp only [List.getElem?_eq_getElem hi]
  have hu:=Lib.hid hu0
  clear hu0
  obtain ⟨p,hp⟩:∃ p,S.ps[i] = p:=⟨_,rfl⟩
  have hpc:=fun gp (e:m.P = some ⟨gp,0,none⟩)=>(h.pcs e hi).c3
  rw [hp] at hu
  simp only [hp] at hpc
  replace hpc:=Lib.hid hpc
  replace P:=Lib.hid P
  clear h hf hp
  go_enter Tryz.func17,Tryz.ntmps17
  go_wp2_with fail
  (with_reducible refine (P.out).mono ?_)
  rintro e w1 ⟨rfl,gp,hP,rfl⟩
  have c3:=hpc.out gp hP
  clear P hpc
  go_wp2_with fail
  go_ret
  rw [hu.out]
  exact ⟨rfl,rfl⟩
set_option maxRecDepth 100000 in
set_option maxHeartbeats 1600000 in
theorem spFail_any (w:World) (m:Sm) (S:Sp) (col:Nat → Nat) (c:Nat) (h:SpAt w m S col c) (hl:S.ps.length ≤ 100000) (l:Int) (G:∀ i,fndS S.ps l = some i → FoOk S i 0 0) :
  Calls Tryz.prog 22 #[.pointer (some ⟨m.g,0,none⟩),.int .i64 l] w (ToPost w m col c (faiS S l).1 (.int .i64 (faiS S l).2)):=by
 have P:=port_any w m S col c h hl l
 unfold PortPost at P
 rcases hf:fndS S.ps l with _ | i
 ·rw [hf] at P
  have hu:faiS S l = (S,2):=by unfold faiS; rw [hf]
  rw [hu]
  have hfin:ToPost w m col c S (.int .i64 2) (.returned (.int .i64 2)) w:=⟨rfl,SpTo.of h (Eff.refl _ _)⟩
  replace P:=Lib.hid P
  replace hfin:=Lib.hid hfin
  clear h hf hu G
  go_enter Tryz.func22,Tryz.ntmps22
  go_wp2_with fail
  (with_reducible refine (P.out).mono ?_)
  rintro e w1 ⟨rfl,rfl⟩
  clear P
  go_wp2_with fail
  go_ret
  exact hfin.out
 ·rw [hf] at P
  have hu:faiS S l = (chgS S i 0 0,0):=by unfold faiS; rw [hf]
  rw [hu]
  have g0:=G i hf
  have CH:=Lib.hid (fun gp (e:m.P = some ⟨gp,0,none⟩)=>changeF w m S col c h g0.db g0.va gp e i g0.hi _ rfl g0.l g0.up 0 0 g0.og (fun W _=>He.fail_ok _ _ W g0.st))
  replace P:=Lib.hid P
  clear h hf hu G g0
  go_enter Tryz.func22,Tryz.ntmps22
  go_wp2_with fail
  (with_reducible refine (P.out).mono ?_)
  rintro e w1 ⟨rfl,gp,hP,rfl⟩
  have CH2:=Lib.hid (CH.out gp hP)
  clear P CH
  go_wp2_with fail
  (with_reducible refine (CH2.out).mono ?_)
  rintro e w2 ⟨rfl,hto⟩
  have hfin:ToPost w m col c (chgS S i 0 0) (.int .i64 0) (.returned (.int .i64 0)) w2:=⟨rfl,hto⟩
  clear CH2 hto
  go_wp2_with fail
  go_ret
  exact hfin
end Go.Proofs.YtehimhbgakpenaaGreat

namespace Go.Proofs.YtehimhbgakpenaaGreat
set_option linter.unusedVariables false
open Go.RowKit Go.Maps Go.Sort
end Go.Proofs.YtehimhbgakpenaaGreat

namespace Go.Proofs.YtehimhbgakpenaaGreat
set_option linter.unusedVariables false
open Go.RowKit Go.Maps Go.Sort
set_option maxRecDepth 100000 in
set_option maxHeartbeats 1600000 in
theorem spData_any (w:World) (m:Sm) (S:Sp) (col:Nat → Nat) (c:Nat) (h:SpAt w m S col c) (hok:DbOk S.db) :
  Calls Tryz.prog 12 #[.pointer (some ⟨m.g,0,none⟩)] w (DAllPost w S.db):=by
 have D:=Lib.hid (dall_any w m.gd m.bd S.db h.db hok)
 have c12:=h.cs.c12
 clear h
 go_enter Tryz.func12,Tryz.ntmps12
 go_wp2_with fail
 (with_reducible refine (D.out).mono ?_)
 rintro e w1 P
 obtain ⟨A,d,ls,rfl,P2⟩:=P
 have hf:DAllPost w S.db (.returned (.slice A (orgs S.db).length d)) w1:=⟨A,d,ls,rfl,P2⟩
 clear D P2
 go_wp2_with fail
 go_ret
 exact hf
end Go.Proofs.YtehimhbgakpenaaGreat

namespace Go.Proofs.YtehimhbgakpenaaGreat
set_option linter.unusedVariables false
open Go.RowKit Go.Maps Go.Sort
structure Sx where
 l:Int
 A:Option Addr
 bs:List UInt8
 c:Nat
def sxV:List Sx → List Value
 | []=>[]
 | s :: r=>.int .i64 s.l :: .slice s.A s.bs.length s.c :: sxV r
theorem sxV_len (l:List Sx):(sxV l).length = l.length * 2:=by
 induction l with
 | nil=>rfl
 | cons s r ih=>simp only [sxV,List.length_cons,ih]; omega
theorem sxV_append (a b:List Sx):sxV (a ++ b) = sxV a ++ sxV b:=by
 induction a with
 | nil=>rfl
 | cons s r ih=>simp only [List.cons_append,sxV,ih]
def SxOwn (w:World) (base:Nat) (s:Sx):Prop:=w.ownsRow base 5 1 (.slice s.A s.bs.length s.c) s.bs.length (s.bs.map u8v)
noncomputable def sentB (l:List (Int × Ms)):List (Int × List UInt8):=l.map fun x=>(x.1,packB x.2)
def SndsAt (w:World) (base:Nat) (v:Value) (l:List (Int × Ms)):Prop :=
 ∃ A c ls,v = .slice A ls.length c ∧ w.ownsRow base 148 2 (.slice A ls.length c) ls.length (sxV ls) ∧ (∀ s ∈ ls,SxOwn w base s) ∧ ls.map (fun s=>(s.l,s.bs)) = sentB l
theorem snds_nil (w:World) (base:Nat):SndsAt w base (.slice none 0 0) []:=⟨none,0,[],rfl,World.ownsRow_nil _ _ _ _,fun s hs=>absurd hs (by simp),rfl⟩
end Go.Proofs.YtehimhbgakpenaaGreat

namespace Go.Proofs.YtehimhbgakpenaaGreat
set_option linter.unusedVariables false
open Go.RowKit Go.Maps Go.Sort
def DbG (D:Fd.Db):Prop:=∀ o hd,D o = some hd → LaValid hd.x ∧ hd.x.o = (o:Int) ∧ 0 ≤ hd.l ∧ hd.l ≤ 65536
theorem fnG {N:Fd.Fn} (h:Fd.FnOk N) {q:Nat} {D:Fd.Db} (hD:N q = some D):DbG D:=fun o hd h1=>h q D o hd hD h1
theorem fnSet {N:Fd.Fn} (h:Fd.FnOk N) {q:Nat} {D:Fd.Db} (hD:DbG D):Fd.FnOk (Fd.setN N q D):=fun i E o hd h1 h2=>by
 unfold Fd.setN at h1
 split at h1
 ·injection h1 with h1; subst h1; exact hD o hd h2
 ·exact h i E o hd h1 h2
theorem fnDrop {N:Fd.Fn} (h:Fd.FnOk N) (q:Nat):Fd.FnOk (Fd.dropN N q):=fun i E o hd h1 h2=>by
 unfold Fd.dropN at h1
 split at h1
 ·cases h1
 ·exact h i E o hd h1 h2
theorem dgOff {D:Fd.Db} (h:DbG D) {a:La} (ha:LaValid a):DbG (Fd.offD D a):=fun o hd h1=>by
 unfold Fd.offD at h1
 split at h1
 ·dsimp only at h1
  split at h1
  ·next e =>
   injection h1 with h1; subst h1
   have:=ha.1
   exact ⟨ha,by simp only; omega,by simp,by simp⟩
  ·exact h o hd h1
 ·exact h o hd h1
theorem dgOffs {D:Fd.Db} (h:DbG D):∀ {l:List La},(∀ a ∈ l,LaValid a) → DbG (Fd.offs D l):=fun {l}=>by
 induction l generalizing D with
 | nil=>intro _; exact h
 | cons a l ih=>intro hv; exact ih (dgOff h (hv a (by simp))) fun b hb=>hv b (List.mem_cons_of_mem _ hb)
theorem dgRm {D:Fd.Db} (h:DbG D) (a:La):DbG (Fd.rmD D a):=fun o hd h1=>by
 unfold Fd.rmD at h1
 split at h1
 ·dsimp only at h1
  split at h1
  ·cases h1
  ·exact h o hd h1
 ·exact h o hd h1
theorem dgAck {D:Fd.Db} (h:DbG D) (a:La):DbG (Fd.ackD D a):=fun o hd h1=>by
 unfold Fd.ackD at h1
 split at h1
 ·dsimp only at h1
  split at h1
  ·cases h1
  ·exact h o hd h1
 ·exact h o hd h1
theorem fnMap {N:Fd.Fn} (F:Nat → Fd.Db → Fd.Db) (h:∀ q D,N q = some D → DbG (F q D)):Fd.FnOk (fun i=>(N i).map (F i)):=fun i E o hd h1 h2=>by
 cases hN:N i with
 | none=>simp only [hN] at h1; cases h1
 | some D =>
   simp only [hN,Option.map_some,Option.some.injEq] at h1
   subst h1
   exact h i D hN o hd h2
theorem fnSpr {N:Fd.Fn} (h:Fd.FnOk N) (a:La) (ex:Int):Fd.FnOk (sprF N a ex):=by
 unfold sprF
 split
 ·next hv =>
  exact fnMap _ fun q D hD=>by
   unfold Fd.sprD
   split
   ·exact dgOff (fnG h hD) (vB_iff.1 hv)
   ·exact dgRm (fnG h hD) a
 ·exact h
theorem fnTik {N:Fd.Fn} (h:Fd.FnOk N) {n:Int} (hn:0 < n):Fd.FnOk (Fd.tikN n N):=fnMap _ fun q D hD o hd h1=>by
 simp only [Fd.tikD,Option.map_eq_some_iff] at h1
 obtain ⟨h0,h1,rfl⟩:=h1
 obtain ⟨a1,a2,a3,a4⟩:=fnG h hD o h0 h1
 unfold Fd.tikH
 exact ⟨a1,a2,by simp only; omega,by simp only; omega⟩
theorem fnPol {N:Fd.Fn} (h:Fd.FnOk N) {iv:Int} (h0:0 ≤ iv) (h1:iv ≤ 65536):Fd.FnOk (Fd.polN iv N):=fnMap _ fun q D hD o hd h1=>by
 simp only [Fd.polD,Option.map_eq_some_iff] at h1
 obtain ⟨h9,h1,rfl⟩:=h1
 obtain ⟨a1,a2,a3,a4⟩:=fnG h hD o h9 h1
 unfold Fd.polH
 split
 ·exact ⟨a1,a2,a3,a4⟩
 ·exact ⟨a1,a2,by simp only; omega,by simp only; omega⟩
theorem fnAck {N:Fd.Fn} (h:Fd.FnOk N) (l:Nat) (a:La):Fd.FnOk (ackL N l a):=by
 unfold ackL
 split
 ·next D hD=>exact fnSet h (dgAck (fnG h hD) a)
 ·exact h
theorem fnOff {N:Fd.Fn} (h:Fd.FnOk N) (l:Nat) (a:La):Fd.FnOk (offL N l a):=by
 unfold offL
 split
 ·next D hD =>
  split
  ·next hv=>exact fnSet h (dgOff (fnG h hD) (vB_iff.1 hv))
  ·exact h
 ·exact h
theorem sprF_some (N:Fd.Fn) (a:La) (ex:Int) (i:Nat):(sprF N a ex i).isSome = (N i).isSome:=by
 unfold sprF Fd.sprN
 split
 ·simp
 ·rfl
theorem setN_some {N:Fd.Fn} {l:Nat} {D D':Fd.Db} (hD:N l = some D) (i:Nat):(Fd.setN N l D' i).isSome = (N i).isSome:=by
 unfold Fd.setN
 split
 ·next e=>subst e; rw [hD]; rfl
 ·rfl
theorem ackL_some (N:Fd.Fn) (l:Nat) (a:La) (i:Nat):(ackL N l a i).isSome = (N i).isSome:=by
 unfold ackL
 cases hD:N l with
 | none=>rfl
 | some D=>exact setN_some hD i
theorem offL_some (N:Fd.Fn) (l:Nat) (a:La) (i:Nat):(offL N l a i).isSome = (N i).isSome:=by
 unfold offL
 cases hD:N l with
 | none=>rfl
 | some D =>
   simp only
   split
   ·exact setN_some hD i
   ·rfl
theorem vld_cases {p l:Int} (h:He.vld p l = true):(p = 0 ∧ l = 0) ∨ ((p = 1 ∨ p = 2) ∧ 1 ≤ l ∧ l ≤ 65536):=by
 unfold He.vld at h
 simp only [Bool.or_eq_true,Bool.and_eq_true,beq_iff_eq,decide_eq_true_eq] at h
 omega
theorem vld_mk {p l:Int} (h:(p = 0 ∧ l = 0) ∨ ((p = 1 ∨ p = 2) ∧ 1 ≤ l ∧ l ≤ 65536)):He.vld p l = true:=by
 unfold He.vld
 simp only [Bool.or_eq_true,Bool.and_eq_true,beq_iff_eq,decide_eq_true_eq]
 omega
theorem vld_tick {p l:Int} (h:He.vld p l = true):He.vld (He.tkP p l 1) (He.tkL p l 1) = true:=by
 have:=vld_cases h
 apply vld_mk
 unfold He.tkP He.tkL
 split <;> rename_i h1
 ·exact this
 ·split <;> rename_i h2
  ·exact .inl ⟨rfl,rfl⟩
  ·right; omega
theorem uq_idx {ps:List Po} (h:(ps.map (·.l)).Nodup) {i j:Nat} (hi:i < ps.length) (hj:j < ps.length) (e:ps[i].l = ps[j].l):i = j:=by
 unfold List.Nodup at h
 rw [List.pairwise_iff_getElem] at h
 rcases Nat.lt_trichotomy i j with h1 | h1 | h1
 ·exact absurd (by rw [List.getElem_map,List.getElem_map]; exact e) (h i j (by simpa using hi) (by simpa using hj) h1)
 ·exact h1
 ·exact absurd (by rw [List.getElem_map,List.getElem_map]; exact e.symm) (h j i (by simpa using hj) (by simpa using hi) h1)
def UpP (ps:List Po) (l:Int):Prop:=∃ p ∈ ps,p.l = l ∧ p.ph = 2
theorem upP_set {ps:List Po} (h:(ps.map (·.l)).Nodup) {i:Nat} (hi:i < ps.length) {q:Po} (hq:q.l = ps[i].l) (l:Int):UpP (ps.set i q) l ↔ if l = ps[i].l then q.ph = 2 else UpP ps l:=by
 constructor
 ·rintro ⟨p,hp,h1,h2⟩
  obtain ⟨j,hj,rfl⟩:=List.getElem_of_mem hp
  rw [List.length_set] at hj
  rw [List.getElem_set] at h1 h2
  split at h1
  ·next e =>
   subst e
   simp only [if_true] at h2
   rw [if_pos (by rw [← h1,hq])]
   exact h2
  ·next e =>
   rw [if_neg e] at h2
   rw [if_neg (fun e2=>e (uq_idx h hi hj (by rw [← e2,h1])))]
   exact ⟨_,List.getElem_mem hj,h1,h2⟩
 ·intro hx
  split at hx
  ·next e=>exact ⟨q,List.mem_set hi q,by rw [hq,e],hx⟩
  ·next e =>
   obtain ⟨p,hp,h1,h2⟩:=hx
   obtain ⟨j,hj,rfl⟩:=List.getElem_of_mem hp
   have hne:i ≠ j:=fun e2=>e (by subst e2; exact h1.symm)
   refine ⟨(ps.set i q)[j]'(by rw [List.length_set]; exact hj),List.getElem_mem _,?_,?_⟩
   ·rw [List.getElem_set,if_neg hne]; exact h1
   ·rw [List.getElem_set,if_neg hne]; exact h2
theorem map_set_l {ps:List Po} {i:Nat} (hi:i < ps.length) {q:Po} (hq:q.l = ps[i].l):(ps.set i q).map (·.l) = ps.map (·.l):=by
 rw [List.map_set]
 apply List.ext_getElem
 ·simp
 ·intro j h1 h2
  rw [List.getElem_set]
  split
  ·next e=>subst e; simp [hq]
  ·rfl
theorem num_valid {x y:La} {s a:Int} (h:LaValid (num x.o 1 0 y)) (hs:1 ≤ s ∧ s ≤ 1073741824):LaValid (num x.o s 0 y):=by
 obtain ⟨h1,h2,h3,h4,h5,h6,h7,h8⟩:=h
 exact ⟨h1,hs,⟨by simp [num],by simp [num]⟩,h4,h5,fun e=>by simp [num] at e,h7,h8⟩
theorem sa_valid {x:La} {s a:Int} (h:LaValid x) (hs:1 ≤ s ∧ s ≤ 1073741824) (ha:0 ≤ a ∧ a ≤ 3599):LaValid { x with s:=s,a:=a }:=by
 obtain ⟨h1,h2,h3,h4,h5,h6,h7,h8⟩:=h
 exact ⟨h1,hs,⟨ha.1,by simp only; omega⟩,h4,h5,fun e=>by simp only at e; omega,h7,h8⟩
structure XOk (nd:Int) (x:La):Prop where
 o:x.o = nd
 s:0 ≤ x.s ∧ x.s ≤ 1073741824
 a:0 ≤ x.a ∧ x.a ≤ 3599
 v:LaValid x
 l:x.adj.length ≤ 256 ∧ x.pre.length ≤ 64
theorem XOk.set {nd:Int} {x:La} (h:XOk nd x) (y:La):XOk nd (setP x true y).x ∧ (setP x true y).now = true:=by
 unfold setP
 split
 ·next hv =>
  split
  ·exact ⟨h,rfl⟩
  ·split
   ·exact ⟨h,rfl⟩
   ·next hs =>
    have hv:=num_valid (a:=0) (s:=x.s + 1) (vB_iff.1 hv) (by have:=h.s; omega)
    exact ⟨⟨h.o,⟨by have:=h.s; simp only [num]; omega,by have:=h.s; simp only [num]; omega⟩,by simp [num],hv,hv.2.2.2.1,hv.2.2.2.2.1⟩,rfl⟩
 ·exact ⟨h,rfl⟩
theorem XOk.tick {nd:Int} {x:La} (h:XOk nd x):XOk nd (tickX x true 1):=by
 have hs:=h.s
 have ha:=h.a
 have hv:=h.v.2.1
 unfold tickX
 simp only [Int.zero_lt_one,and_self,if_true]
 split
 ·next hr =>
  simp only [renews,Bool.and_eq_true,decide_eq_true_eq] at hr
  have ht:times x 1 = 1:=by unfold times; split <;> omega
  rw [ht]
  have hc:capA (1 - (1800 - x.a) - (1 - 1) * 1800) = 0:=by unfold capA; split <;> omega
  rw [hc]
  exact ⟨h.o,⟨by simp only; omega,by simp only; omega⟩,⟨by simp,by simp⟩,sa_valid h.v (by omega) (by omega),h.l⟩
 ·have hc:0 ≤ capA (x.a + 1) ∧ capA (x.a + 1) ≤ 3599:=by unfold capA; split <;> omega
  have:=sa_valid (s:=x.s) h.v (by omega) hc
  exact ⟨h.o,hs,hc,this,h.l⟩
section
variable {S:Sp}
theorem SpOk.xk (h:SpOk S):XOk S.nd S.x:=⟨h.xo,h.xs,h.xa,h.xv,h.xl⟩
theorem SpOk.setx (h:SpOk S) {x:La} {md:Bool} (hx:XOk S.nd x) (hm:md = true):SpOk { S with x:=x,md:=md } :=
 ⟨h.tp,h.nd,h.bo,h.h1,h.h2,h.h3,h.tm,h.ps,h.uq,h.pl,h.pre,h.db,h.dz,h.fl,h.up,hx.o,hx.s,hx.a,hm,hx.v,hx.l⟩
theorem setP_sz (x:La) (mk:Bool) (y:La) {n k:Nat} (h1:x.adj.length ≤ n) (h2:y.adj.length ≤ n) (h3:x.pre.length ≤ k) (h4:y.pre.length ≤ k):(setP x mk y).x.adj.length ≤ n ∧ (setP x mk y).x.pre.length ≤ k:=by
 unfold setP
 split
 ·split
  ·exact ⟨h1,h3⟩
  ·split
   ·exact ⟨h1,h3⟩
   ·exact ⟨h2,h4⟩
 ·exact ⟨h1,h3⟩
theorem og_of (h1:S.ps.length ≤ 512) (h2:S.pre.length ≤ 64) (h3:0 ≤ S.x.s ∧ S.x.s ≤ 1073741824) (h4:S.x.adj.length ≤ 256 ∧ S.x.pre.length ≤ 64):OgOk S:=by
 have hl:=adjS_len S.ps
 obtain ⟨a,b⟩:=setP_sz S.x S.md (conS S) (n:=1000000) (k:=1000000) (by omega) (by simp only [conS]; omega) (by omega) (by simp only [conS]; omega)
 exact ⟨h1,by omega,h3.1,h3.2,a,b⟩
theorem SpOk.og (h:SpOk S):OgOk S:=og_of h.pl h.pre h.xs h.xl
theorem SpOk.va (h:SpOk S):∀ a ∈ allN S.db,LaValid a:=fun a ha=>by
 unfold allN at ha
 obtain ⟨i,hi,rfl⟩:=List.mem_map.1 ha
 obtain ⟨h1,h2⟩:=orgs_mem i |>.1 hi
 obtain ⟨x,hx⟩:=Option.isSome_iff_exists.1 h2
 rw [hx]
 exact (h.db _ _ hx).1
theorem SpOk.pub (h:SpOk S):SpOk (pubS S):=by
 have hc:curX S.x S.md = S.x:=by unfold curX; rw [h.xm]; rfl
 unfold pubS
 rw [hc]
 refine ⟨h.tp,h.nd,h.bo,h.h1,h.h2,h.h3,h.tm,h.ps,h.uq,h.pl,h.pre,dbInst_ok h.db (fun _=>h.xv),fun i hi=>?_,fnSpr h.fl _ _,fun l=>?_,h.xo,h.xs,h.xa,h.xm,h.xv,h.xl⟩
 ·show instN S.db S.x i = none
  unfold instN
  split
  ·dsimp only
   rw [if_neg (by have:=h.xv.1; omega)]
   exact h.dz i hi
  ·exact h.dz i hi
 ·show (sprF S.fl S.x (-1) l).isSome = true ↔ _
  rw [sprF_some]
  exact h.up l
theorem SpOk.orig (h:SpOk S):SpOk (origS S):=by
 have hx:=h.xk.set (conS S)
 have hm:=h.xm
 unfold origS
 rw [← hm] at hx
 split
 ·exact (h.setx hx.1 (hx.2.trans hm)).pub
 ·exact h.setx hx.1 (hx.2.trans hm)
theorem SpOk.fol (h:SpOk S) {i:Nat} (hi:i < S.ps.length) {ph lf:Int} (hv:He.vld ph lf = true):SpOk (folS S i ph lf):=by
 rw [folS_at hi]
 have hp:=h.ps _ (List.getElem_mem hi)
 obtain ⟨ln,hln⟩:=Int.eq_ofNat_of_zero_le hp.l.1
 have hup:=fun l=>upP_set h.uq hi (q:=poSet S.ps[i] ph lf) rfl l
 have hupN:∀ l:Nat,(S.fl l).isSome = true ↔ UpP S.ps (l:Int):=h.up
 refine ⟨h.tp,h.nd,h.bo,h.h1,h.h2,h.h3,h.tm,fun p hp2=>?_,by have:=map_set_l hi (q:=poSet S.ps[i] ph lf) rfl; simp only; rw [this]; exact h.uq,by simp only [List.length_set]; exact h.pl,h.pre,h.db,h.dz,?_,fun l=>?_,h.xo,h.xs,h.xa,h.xm,h.xv,h.xl⟩
 ·rcases List.mem_or_eq_of_mem_set hp2 with h1 | rfl
  ·exact h.ps p h1
  ·refine ⟨hp.l,hp.o,hp.c,hv,?_⟩
   simp only [poSet]
   split
   ·omega
   ·exact hp.bt
 ·dsimp only
  split
  ·exact fnSet h.fl (dgOffs (fun o hd e=>by cases e) h.va)
  ·split
   ·exact fnDrop h.fl _
   ·exact h.fl
 ·show _ ↔ UpP (S.ps.set i (poSet S.ps[i] ph lf)) (l:Int)
  rw [hup,show S.ps[i].l.toNat = ln by omega]
  have hq:(poSet S.ps[i] ph lf).ph = ph:=rfl
  rw [hq]
  dsimp only
  by_cases e:l = ln
  ·subst e
   rw [if_pos hln.symm]
   have hl0:=hupN l
   have hlp:UpP S.ps (l:Int) ↔ S.ps[i].ph = 2:=⟨fun ⟨p,h1,h2,h3⟩=>by
    obtain ⟨j,hj,rfl⟩:=List.getElem_of_mem h1
    obtain rfl:=uq_idx h.uq hi hj (by rw [h2,hln])
    exact h3,fun e=>⟨_,List.getElem_mem hi,hln,e⟩⟩
   rw [hlp] at hl0
   unfold He.evt
   split <;> split <;> rename_i h1 h2 <;> simp_all [Fd.setN,Fd.dropN]
  ·have hR:(if (l:Int) = S.ps[i].l then ph = 2 else UpP S.ps (l:Int)) = UpP S.ps (l:Int):=if_neg (by omega)
   rw [hR]
   have:∀ F:Fd.Fn,F = (if He.evt S.ps[i].ph ph = 1 then Fd.setN S.fl ln (Fd.offs (fun _=>none) (allN S.db)) else if He.evt S.ps[i].ph ph = 2 then Fd.dropN S.fl ln else S.fl) → F l = S.fl l:=fun F e1=>by
    subst e1
    split
    ·simp [Fd.setN,e]
    ·split
     ·simp [Fd.dropN,e]
     ·rfl
   rw [this _ rfl]
   exact hupN l
theorem SpOk.fo (h:SpOk S) {i:Nat} (hi:i < S.ps.length) (ph lf:Int):FoOk S i ph lf:=by
 have hp:=h.ps _ (List.getElem_mem hi)
 obtain ⟨ln,hln⟩:=Int.eq_ofNat_of_zero_le hp.l.1
 refine ⟨h.db,h.va,hi,hp.l,fun e=>?_,hp.st,?_⟩
 ·rw [show S.ps[i].l.toNat = ln by omega]
  exact (h.up ln).2 ⟨_,List.getElem_mem hi,hln,e⟩
 ·rw [folS_at hi]
  exact og_of (by simp only [List.length_set]; exact h.pl) h.pre h.xs h.xl
theorem SpOk.chg (h:SpOk S) {i:Nat} (hi:i < S.ps.length) {ph lf:Int} (hv:He.vld ph lf = true):SpOk (chgS S i ph lf):=by
 unfold chgS
 split
 ·exact h.fol hi hv
 ·exact (h.fol hi hv).orig
theorem SpOk.pset (h:SpOk S) {i:Nat} (hi:i < S.ps.length) {c b:Int} (hc:1 ≤ c ∧ c ≤ 65535) (hb:0 ≤ b ∧ b ≤ 1073741824):SpOk { S with ps:=S.ps.set i ⟨S.ps[i].l,S.ps[i].o,c,S.ps[i].ph,S.ps[i].lf,b⟩ }:=by
 have hp:=h.ps _ (List.getElem_mem hi)
 refine ⟨h.tp,h.nd,h.bo,h.h1,h.h2,h.h3,h.tm,fun p hp2=>?_,by have:=map_set_l hi (q:=⟨S.ps[i].l,S.ps[i].o,c,S.ps[i].ph,S.ps[i].lf,b⟩) rfl; simp only; rw [this]; exact h.uq,by simp only [List.length_set]; exact h.pl,h.pre,h.db,h.dz,h.fl,fun l=>?_,h.xo,h.xs,h.xa,h.xm,h.xv,h.xl⟩
 ·rcases List.mem_or_eq_of_mem_set hp2 with h1 | rfl
  ·exact h.ps p h1
  ·exact ⟨hp.l,hp.o,hc,hp.st,hb⟩
 ·have:=upP_set h.uq hi (q:=⟨S.ps[i].l,S.ps[i].o,c,S.ps[i].ph,S.ps[i].lf,b⟩) rfl (l:Int)
  unfold UpP at this
  rw [this,h.up l]
  split
  ·next e =>
   exact ⟨fun ⟨p,h1,h2,h3⟩=>by
    obtain ⟨j,hj,rfl⟩:=List.getElem_of_mem h1
    obtain rfl:=uq_idx h.uq hi hj (by rw [h2,e])
    exact h3,fun e2=>⟨_,List.getElem_mem hi,e.symm,e2⟩⟩
  ·exact Iff.rfl
theorem SpOk.bot (h:SpOk S) {i:Nat} (hi:i < S.ps.length) {b:Int} (hb:0 ≤ b ∧ b ≤ 1073741824):SpOk (botS S i b):=by
 rw [botS_at hi]
 exact h.pset hi (h.ps _ (List.getElem_mem hi)).c hb
theorem origS_ps (S:Sp):(origS S).ps = S.ps ∧ (origS S).nd = S.nd ∧ (origS S).h1 = S.h1 ∧ (origS S).h3 = S.h3 ∧ (origS S).tm = S.tm ∧ (origS S).tp = S.tp:=by
 unfold origS pubS
 split <;> exact ⟨rfl,rfl,rfl,rfl,rfl,rfl⟩
theorem folS_fx (S:Sp) (i:Nat) (ph lf:Int):(folS S i ph lf).ps.length = S.ps.length ∧ (folS S i ph lf).nd = S.nd ∧ (folS S i ph lf).h1 = S.h1 ∧ (folS S i ph lf).h3 = S.h3 ∧ (folS S i ph lf).tm = S.tm ∧ (folS S i ph lf).tp = S.tp:=by
 unfold folS
 split
 ·exact ⟨rfl,rfl,rfl,rfl,rfl,rfl⟩
 ·exact ⟨by simp,rfl,rfl,rfl,rfl,rfl⟩
theorem chgS_len (S:Sp) (i:Nat) (ph lf:Int):(chgS S i ph lf).ps.length = S.ps.length:=by
 unfold chgS
 split
 ·exact (folS_fx S i ph lf).1
 ·rw [(origS_ps _).1]; exact (folS_fx S i ph lf).1
theorem hel1_len (S:Sp) (i:Nat) (p:Po) (b:Int):(hel1 S i p b).ps.length = S.ps.length:=by
 unfold hel1
 split
 ·exact chgS_len _ _ _ _
 ·rfl
theorem SpOk.he1 (h:SpOk S) {i:Nat} (hi:i < S.ps.length) (p:Po) (b:Int):SpOk (hel1 S i p b):=by
 unfold hel1
 split
 ·exact h.chg hi rfl
 ·exact h
theorem SpOk.he2 (h:SpOk S) {i:Nat} (hi:i < S.ps.length) (p:Po) {b:Int} (hb:0 ≤ b ∧ b ≤ 1073741824):SpOk (botS (hel1 S i p b) i b):=(h.he1 hi p b).bot (by rw [hel1_len]; exact hi) hb
theorem SpOk.hel (h:SpOk S) {i:Nat} (hi:i < S.ps.length) {b:Int} (hb:0 ≤ b ∧ b ≤ 1073741824) (hh:Int):SpOk (helS S i b hh):=by
 rw [helS_at hi rfl]
 have h2:=h.he2 hi S.ps[i] hb
 refine h2.chg (by rw [botS_len,hel1_len]; exact hi) (vld_mk (.inr ⟨?_,h.h2⟩))
 split
 ·exact .inr rfl
 ·exact .inl rfl
theorem SpOk.dbf (h:SpOk S) {N:Db} {F:Fd.Fn} (h1:DbOk N) (h2:∀ i,64 ≤ i → N i = none) (h3:Fd.FnOk F) (h4:∀ l,(F l).isSome = (S.fl l).isSome):SpOk { S with db:=N,fl:=F } :=
 ⟨h.tp,h.nd,h.bo,h.h1,h.h2,h.h3,h.tm,h.ps,h.uq,h.pl,h.pre,h1,h2,h3,fun l=>by rw [h4]; exact h.up l,h.xo,h.xs,h.xa,h.xm,h.xv,h.xl⟩
theorem instN_dz {N:Db} (h:∀ i,64 ≤ i → N i = none) (a:La):∀ i,64 ≤ i → instN N a i = none:=fun i hi=>by
 unfold instN
 split
 ·next hv =>
  dsimp only
  rw [if_neg (by have:=(vB_iff.1 hv.1).1; omega)]
  exact h i hi
 ·exact h i hi
theorem SpOk.ins (h:SpOk S) (l:Int) (a:La):SpOk (insS S l a).1:=by
 have h1:=dbInst_ok h.db (a:=a) vB_iff.1
 have h2:=instN_dz h.dz a
 unfold insS
 split
 ·exact h.dbf h1 h2 (fnSpr h.fl _ _) (sprF_some _ _ _)
 ·split
  ·exact h.dbf h1 h2 (fnAck h.fl _ _) (ackL_some _ _ _)
  ·exact h.dbf h1 h2 (fnOff h.fl _ _) (offL_some _ _ _)
theorem tk1_fx (S:Sp) (k:Nat):(tk1 S k).ps.length = S.ps.length ∧ (tk1 S k).nd = S.nd ∧ (tk1 S k).h1 = S.h1 ∧ (tk1 S k).h3 = S.h3 ∧ (tk1 S k).tm = S.tm ∧ (tk1 S k).tp = S.tp:=by
 induction k with
 | zero=>exact ⟨rfl,rfl,rfl,rfl,rfl,rfl⟩
 | succ k ih =>
   unfold tk1
   split
   ·exact ih
   ·obtain ⟨a1,a2,a3,a4,a5,a6⟩:=folS_fx (tk1 S k) k (He.tkP _ _ 1) (He.tkL _ _ 1)
    exact ⟨a1.trans ih.1,a2.trans ih.2.1,a3.trans ih.2.2.1,a4.trans ih.2.2.2.1,a5.trans ih.2.2.2.2.1,a6.trans ih.2.2.2.2.2⟩
theorem tk1_next {S:Sp} {k:Nat} (hk:k < S.ps.length):tk1 S (k + 1) = folS (tk1 S k) k (He.tkP ((tk1 S k).ps[k]'(by rw [(tk1_fx S k).1]; exact hk)).ph ((tk1 S k).ps[k]'(by rw [(tk1_fx S k).1]; exact hk)).lf 1) (He.tkL ((tk1 S k).ps[k]'(by rw [(tk1_fx S k).1]; exact hk)).ph ((tk1 S k).ps[k]'(by rw [(tk1_fx S k).1]; exact hk)).lf 1):=by
 rw [tk1,List.getElem?_eq_getElem (by rw [(tk1_fx S k).1]; exact hk)]
theorem folS_other (S:Sp) (i:Nat) (ph lf:Int) {j:Nat} (hj:j ≠ i):(folS S i ph lf).ps[j]? = S.ps[j]?:=by
 unfold folS
 split
 ·rfl
 ·simp only [List.getElem?_set,if_neg (Ne.symm hj)]
theorem tk1_rest (S:Sp) (k j:Nat) (hj:k ≤ j):(tk1 S k).ps[j]? = S.ps[j]?:=by
 induction k with
 | zero=>rfl
 | succ k ih =>
   unfold tk1
   split
   ·exact ih (by omega)
   ·rw [folS_other _ _ _ _ (by omega)]; exact ih (by omega)
theorem tk1_at {S:Sp} {k:Nat} (hk:k < S.ps.length):(tk1 S k).ps[k]'(by rw [(tk1_fx S k).1]; exact hk) = S.ps[k]:=by
 have:=tk1_rest S k k (Nat.le_refl _)
 rw [List.getElem?_eq_getElem hk,List.getElem?_eq_getElem (by rw [(tk1_fx S k).1]; exact hk)] at this
 injection this
theorem SpOk.tk (h:SpOk S) (k:Nat):SpOk (tk1 S k):=by
 induction k with
 | zero=>exact h
 | succ k ih =>
   unfold tk1
   split
   ·exact ih
   ·next p hp =>
    have hk:k < (tk1 S k).ps.length:=(List.getElem?_eq_some_iff.1 hp).1
    have hpp:=ih.ps p (List.mem_of_getElem? hp)
    exact ih.fol hk (vld_tick hpp.st)
theorem SpOk.time (h:SpOk S):SpOk { S with tm:=S.tm + 1 } :=
 ⟨h.tp,h.nd,h.bo,h.h1,h.h2,h.h3,by have:=h.tm; simp only; omega,h.ps,h.uq,h.pl,h.pre,h.db,h.dz,h.fl,h.up,h.xo,h.xs,h.xa,h.xm,h.xv,h.xl⟩
theorem purF_ok (nd:Int) (N:Db) (l:List Int):∀ F:Fd.Fn,Fd.FnOk F → Fd.FnOk (purF nd N F l) ∧ ∀ i,(purF nd N F l i).isSome = (F i).isSome:=by
 unfold purF
 induction l with
 | nil=>exact fun F h=>⟨h,fun _=>rfl⟩
 | cons n l ih =>
   intro F h
   rw [List.foldl_cons]
   have key:∀ G:Fd.Fn,G = (match getO N n with | some h=>if n ≠ nd then sprF F h.x (-1) else F | none=>F) → Fd.FnOk G ∧ ∀ i,(G i).isSome = (F i).isSome:=fun G hG=>by
    cases hN:getO N n with
    | none=>rw [hN] at hG; simp only at hG; subst hG; exact ⟨h,fun _=>rfl⟩
    | some x =>
      rw [hN] at hG
      simp only at hG
      split at hG
      ·subst hG; exact ⟨fnSpr h _ _,sprF_some _ _ _⟩
      ·subst hG; exact ⟨h,fun _=>rfl⟩
   have key:=key _ rfl
   obtain ⟨a,b⟩:=ih _ key.1
   exact ⟨a,fun i=>(b i).trans (key.2 i)⟩
theorem tickN_dz {N:Db} (h:∀ i,64 ≤ i → N i = none) (n:Int):∀ i,64 ≤ i → tickN n N i = none:=fun i hi=>by unfold tickN; rw [h i hi]
theorem tickN_ok {N:Db} (h:DbOk N) {n:Int} (hn:0 ≤ n):DbOk (tickN n N):=fun i x e=>by
 unfold tickN at e
 cases hx:N i with
 | none=>rw [hx] at e; cases e
 | some y =>
   rw [hx] at e
   obtain ⟨hv,ho,h1,h2⟩:=h i y hx
   dsimp only at e
   unfold tickH at e
   obtain ⟨v1,v2,v3,v4,v5,v6,v7,v8⟩:=hv
   split at e
   ·split at e
    ·injection e with e; subst e
     exact ⟨⟨v1,v2,by simp only; omega,v4,v5,fun e=>by simp only at e; omega,v7,v8⟩,ho,h1,h2⟩
    ·split at e
     ·cases e
     ·injection e with e; subst e
      refine ⟨⟨v1,v2,by simp [purgeX],by simp [purgeX],by simp [purgeX],fun _=>⟨rfl,rfl,rfl⟩,?_,?_⟩,ho,by simp only; omega,by simp only; omega⟩
      ·intro j y hj hy; simp [purgeX] at hy
      ·intro j y hj hy; simp [purgeX] at hy
   ·split at e
    ·cases e
    ·injection e with e; subst e
     exact ⟨⟨v1,v2,v3,v4,v5,v6,v7,v8⟩,ho,by simp only; omega,by simp only; omega⟩
theorem SpOk.tA (h:SpOk S):SpOk (tkA S):=h.time.tk _
theorem SpOk.tB (h:SpOk S):SpOk (tkB S):=by
 unfold tkB
 split
 ·exact h.tA.orig
 ·exact h.tA
theorem SpOk.tC (h:SpOk S):SpOk (tkC S):=by
 have hb:=h.tB
 obtain ⟨a,b⟩:=purF_ok S.nd (tickN 1 (tkB S).db) (tickL 1 (tkB S).db) _ hb.fl
 exact hb.dbf (tickN_ok hb.db (by omega)) (tickN_dz hb.dz 1) a b
theorem SpOk.tD (h:SpOk S):SpOk (tkD S):=by
 have hc:=h.tC
 have hx:=hc.xk.tick
 have hm:=hc.xm
 rw [← hm] at hx
 unfold tkD
 have h2:=hc.setx hx hm
 split
 ·exact h2.pub
 ·exact h2
theorem SpOk.tE (h:SpOk S):SpOk (tkE S):=by
 have hd:=h.tD
 exact hd.dbf hd.db hd.dz (fnTik hd.fl (by omega)) (fun l=>by unfold Fd.tikN; simp)
theorem SpOk.snd (h:SpOk S):SpOk (sndS S):=h.dbf h.db h.dz (fnPol h.fl (by have:=h.h3; omega) h.h3.2) (fun l=>by unfold Fd.polN; simp)
theorem SpOk.tic (h:SpOk S):SpOk (ticS S).1:=h.tE.snd
end
end Go.Proofs.YtehimhbgakpenaaGreat
