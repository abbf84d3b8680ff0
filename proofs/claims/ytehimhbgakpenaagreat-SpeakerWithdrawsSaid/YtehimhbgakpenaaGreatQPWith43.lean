/-
  The texts SpH, SpI, one after the other.
-/
import Derived.Test.YtehimhbgakpenaaGreatQPWith42
import Derived.Test.YtehimhbgakpenaaGreatQPWith29
namespace Go.Proofs.YtehimhbgakpenaaGreat
set_option linter.unusedVariables false
open Go.RowKit Go.Maps Go.Sort
section
variable {w w':World} {m:Sm} {S:Sp} {col:Nat → Nat} {c:Nat}
theorem SpAt.flOne (h:SpAt w m S col c) {l:Nat} (hl:l < 256) {D D':Fd.Db} (hD:S.fl l = some D) (hg:w.grownBy w' (some (m.ff l))) (hf:Fd.FlAt w' m.gf m.bf S.h3 (Fd.setN S.fl l D') m.ff):SpAt w' m { S with fl:=Fd.setN S.fl l D' } col c ∧ Ev col c w w' :=
 h.flTurn ((Fd.Kf.refl _ w).row hg (.inl ⟨l,hl,by rw [hD]; rfl,rfl⟩)) hf (fun j=>by
  unfold Fd.setN
  by_cases e:j = l
  ·rw [if_pos e,e,hD]; rfl
  ·rw [if_neg e])
end
theorem sack_any (w:World) (m:Sm) (S:Sp) (col:Nat → Nat) (c:Nat) (h:SpAt w m S col c) (l:Nat) (hl:l < 256) (v:Value) (a:La) (hv:LaAt w v a) (hwf:(Lit.int .i64 a.o).wf = true) :
  Calls Tryz.prog 69 #[.pointer (some ⟨m.gf,0,none⟩),.int .i64 (l:Int),v] w fun e w'=>(∃ b r,e = .returned (.tuple #[.bool b,.int .i64 r])) ∧ SpAt w' m { S with fl:=ackL S.fl l a } col c ∧ Ev col c w w':=by
 rcases hD:S.fl l with _ | D
 ·have e1:ackL S.fl l a = S.fl:=by unfold ackL; rw [hD]
  rw [e1]
  refine (Fd.fack_no w m.gf m.bf S.h3 S.fl m.ff h.fl l (wf64 (by omega) (by omega)) (by rw [Fd.lkO_nat hl]; exact hD) v a hv).mono ?_
  rintro e w' ⟨rfl,hb⟩
  exact ⟨⟨_,_,rfl⟩,h.below hb,Eff.below hb⟩
 ·have e1:ackL S.fl l a = Fd.setN S.fl l (Fd.ackD D a):=by unfold ackL; rw [hD]
  rw [e1]
  refine (Fd.fack_any w m.gf m.bf S.h3 S.fl m.ff h.fl l hl D hD v a hv hwf).mono ?_
  rintro e w' ⟨rfl,hf,hg⟩
  exact ⟨⟨_,_,rfl⟩,h.flOne hl hD hg hf⟩
theorem soff_any (w:World) (m:Sm) (S:Sp) (col:Nat → Nat) (c:Nat) (h:SpAt w m S col c) (l:Nat) (hl:l < 256) (v:Value) (a:La) (hv:LaAt w v a) :
  Calls Tryz.prog 121 #[.pointer (some ⟨m.gf,0,none⟩),.int .i64 (l:Int),v] w fun e w'=>(∃ r,e = .returned (.int .i64 r)) ∧ SpAt w' m { S with fl:=offL S.fl l a } col c ∧ Ev col c w w':=by
 rcases hD:S.fl l with _ | D
 ·have e1:offL S.fl l a = S.fl:=by unfold offL; rw [hD]
  rw [e1]
  refine (Fd.foffer_no w m.gf m.bf S.h3 S.fl m.ff h.fl l (wf64 (by omega) (by omega)) (by rw [Fd.lkO_nat hl]; exact hD) v a hv).mono ?_
  rintro e w' ⟨rfl,hb⟩
  exact ⟨⟨_,rfl⟩,h.below hb,Eff.below hb⟩
 ·by_cases hva:LaValid a
  ·have e1:offL S.fl l a = Fd.setN S.fl l (Fd.offD D a):=by unfold offL; rw [hD]; simp only [vB_t hva,if_true]
   rw [e1]
   refine (Fd.foffer_yes w m.gf m.bf S.h3 S.fl m.ff h.fl l hl D hD v a hv hva).mono ?_
   rintro e w' ⟨rfl,hf,hg⟩
   exact ⟨⟨_,rfl⟩,h.flOne hl hD hg hf⟩
  ·have e1:offL S.fl l a = S.fl:=by unfold offL; rw [hD]; simp only [vB_f hva,Bool.false_eq_true,if_false]
   rw [e1]
   refine (Fd.foffer_bad w m.gf m.bf S.h3 S.fl m.ff h.fl l hl D hD v a hv hva).mono ?_
   rintro e w' ⟨rfl,hb⟩
   exact ⟨⟨_,rfl⟩,h.below hb,Eff.below hb⟩
theorem MsAt.mk' {w:World} {m:Ms} {A:Option Addr} {c:Nat} {B:Option Addr} {d:Nat} (h:LaAt w (laW m.y A c B d) m.y):MsAt w (msV m A c B d) m:=⟨A,c,B,d,rfl,h⟩
def SndPost (w:World) (l:Int) (mm:Ms) (e:Ending) (w':World):Prop :=
 ∃ A c,e = .returned (.agg #[.int .i64 l,.slice A (packB mm).length c]) ∧ w'.ownsRow w.heap.size 5 1 (.slice A (packB mm).length c) (packB mm).length ((packB mm).map u8v) ∧ Below w.heap.size w w'
set_option maxRecDepth 100000 in
set_option maxHeartbeats 3200000 in
theorem pack_any (w:World) (m:Sm) (S:Sp) (col:Nat → Nat) (c:Nat) (h:SpAt w m S col c) (l:Int) (v:Value) (mm:Ms) (hv:MsAt w v mm) :
  Calls Tryz.prog 68 #[.pointer (some ⟨m.g,0,none⟩),.int .i64 l,v] w (SndPost w l { mm with b:=S.bo }):=by
 obtain ⟨A,ca,B,d,rfl,hla⟩:=hv
 have S0:=((St.start w).new' #[.int .i64 mm.k,.int .i64 mm.n,.int .i64 mm.b,.int .i64 mm.h,.int .i64 mm.y.o,.int .i64 mm.y.s,.int .i64 mm.y.a,.bool mm.y.ov,.slice A mm.y.adj.length ca,.slice B mm.y.pre.length d] 142 w.heap.size _ rfl rfl).new' #[.int .i64 0,.slice none 0 0] 148 (w.heap.size + 1) _ (by simp) rfl
 have S1:=((St.start w).new' #[.int .i64 mm.k,.int .i64 mm.n,.int .i64 S.bo,.int .i64 mm.h,.int .i64 mm.y.o,.int .i64 mm.y.s,.int .i64 mm.y.a,.bool mm.y.ov,.slice A mm.y.adj.length ca,.slice B mm.y.pre.length d] 142 w.heap.size _ rfl rfl).new' #[.int .i64 0,.slice none 0 0] 148 (w.heap.size + 1) _ (by simp) rfl
 have k4:=cell_later S0.b h.cs.c4
 have f2:=S0.f 1 2 rfl rfl
 have hmg:m.g < w.heap.size:=ty_lt h.tg
 have PK:=spack_any _ (msV { mm with b:=S.bo } A ca B d) { mm with b:=S.bo } (MsAt.mk' (hla.below S1.b))
 unfold PackPost at PK
 replace PK:=Lib.hid PK
 clear h hla
 go_enter Tryz.func68,Tryz.ntmps68
 go_upto_region 1 with fail
 have c0:=S0.c 1 0 rfl rfl
 have c1:=S0.c 1 1 rfl rfl
 have c2:=S0.c 1 2 rfl rfl
 have c3:=S0.c 1 3 rfl rfl
 have c4:=S0.c 1 4 rfl rfl
 have c5:=S0.c 1 5 rfl rfl
 have c6:=S0.c 1 6 rfl rfl
 have c7:=S0.c 1 7 rfl rfl
 have c8:=S0.c 1 8 rfl rfl
 have c9:=S0.c 1 9 rfl rfl
 go_upto_region 2 with fail
 clear c0 c1 c2 c3 c4 c5 c6 c7 c8 c9 k4 f2 S0
 generalize hw2:World.alloc (World.alloc _ _) _ = w2 at *
 clear hw2
 have c0:=S1.c 1 0 rfl rfl
 have c1:=S1.c 1 1 rfl rfl
 have c2:=S1.c 1 2 rfl rfl
 have c3:=S1.c 1 3 rfl rfl
 have c4:=S1.c 1 4 rfl rfl
 have c5:=S1.c 1 5 rfl rfl
 have c6:=S1.c 1 6 rfl rfl
 have c7:=S1.c 1 7 rfl rfl
 have c8:=S1.c 1 8 rfl rfl
 have c9:=S1.c 1 9 rfl rfl
 go_wp2_with fail
 (with_reducible refine (PK.out).mono ?_)
 rintro e w3 ⟨A2,c2',rfl,ho,hb⟩
 have S3:=S1.call hb
 have hlt:w.heap.size + 1 < w2.heap.size:=(S1.box 0 rfl).lt (by simp)
 have hs1:=S1.b.size
 generalize hbs:packB _ = bs at *
 replace hbs:=Lib.hid hbs
 generalize packE _ = pe at *
 have ho2:((w3.setCell ⟨w.heap.size + 1,0,none⟩ (.int .i64 l)).setCell ⟨w.heap.size + 1,1,none⟩ (.slice A2 bs.length c2')).ownsRow w.heap.size 5 1 (.slice A2 bs.length c2') bs.length (bs.map u8v):=own_mono (ownsRow_setCell_below (a:=⟨w.heap.size + 1,1,none⟩) (ownsRow_setCell_below (a:=⟨w.heap.size + 1,0,none⟩) ho (by simp only; omega) _) (by simp only; omega) _) hs1
 clear PK ho S1 hb c0 c1 c2 c3 c4 c5 c6 c7 c8 c9 hlt hs1
 have S4:=S3.set2 0 (.int .i64 l) (.slice A2 bs.length c2') rfl (by simp) (by intro x hx; simp at hx; rcases hx with rfl; simp) _ rfl
 have b4:=S4.b
 have hf:SndPost w l { mm with b:=S.bo } (.returned (.agg #[.int .i64 l,.slice A2 bs.length c2'])) ((w3.setCell ⟨w.heap.size + 1,0,none⟩ (.int .i64 l)).setCell ⟨w.heap.size + 1,1,none⟩ (.slice A2 bs.length c2')):=by
  unfold SndPost
  rw [hbs.out]
  exact ⟨A2,c2',rfl,ho2,b4⟩
 have d0:=S3.c 0 0 rfl rfl
 have d1:=S3.c 0 1 rfl rfl
 have f0:=S3.f 0 0 rfl rfl
 have f1:=S3.f 0 1 rfl rfl
 have e0:=S4.c 0 0 rfl rfl
 have e1:=S4.c 0 1 rfl rfl
 clear ho2 b4 S3 S4 hbs
 go_wp2_with fail
 exact bodyPost_ret (v:=.agg #[.int .i64 l,.slice A2 bs.length c2']) (by simp [results,Tryz.results68,go_sem,e0,e1]) rfl hf
end Go.Proofs.YtehimhbgakpenaaGreat

namespace Go.Proofs.YtehimhbgakpenaaGreat
set_option linter.unusedVariables false
open Go.RowKit Go.Maps Go.Sort
theorem Eff.boxT {E:Nat → Prop} {w w':World} {g:Nat} {cs:List Value} {T:TypeId} (h:Eff E w w') (hb:Box w g cs) (ht:Ty w g T) (hT:¬ MutT T):Box w' g cs:=fun i u hu=>by
 obtain ⟨h1,h2⟩:=hb i u hu
 have e:=h.typed ht hT
 exact ⟨(World.cell?_of_block (a:=⟨g,i,none⟩) e).trans h1,(World.frozen?_of_block (a:=⟨g,i,none⟩) e).trans h2⟩
theorem ty_new (w:World) (cs:Array Value) (T:TypeId):Ty (w.alloc (.cells cs T)) w.heap.size T:=⟨cs,_,Array.getElem?_push_size⟩
theorem lsa_imm:¬ MutT 41:=by unfold MutT; decide
theorem msg_imm:¬ MutT 142:=by unfold MutT; decide
noncomputable def heaS (S:Sp) (a:La):Sp:=if a.o = S.nd then { S with x:=(hearP S.x S.md a).x,md:=(hearP S.x S.md a).now } else S
theorem hear_sizes (x:La) (mk:Bool) (a:La):(hearP x mk a).x.adj = x.adj ∧ (hearP x mk a).x.pre = x.pre:=by
 unfold hearP
 split
 ·split
  ·split
   ·exact ⟨rfl,rfl⟩
   ·split <;> exact ⟨rfl,rfl⟩
  ·exact ⟨rfl,rfl⟩
 ·exact ⟨rfl,rfl⟩
theorem upd_ins (S:Sp) (l:Int) (a:La) (h:a.o = S.nd → (hearP S.x S.md a).made = false ∧ (hearP S.x S.md a).err = 0):updS S l a = insS (heaS S a) l a:=by
 unfold updS heaS
 by_cases e:a.o = S.nd
 ·obtain ⟨h1,h2⟩:=h e
  rw [if_pos e,if_pos e,h1,h2]
  simp
 ·rw [if_neg e,if_neg e]
theorem made_false (S:Sp) (l:Int) (a:La) (h:a.o = S.nd) (hm:(hearP S.x S.md a).made = true):updS S l a = (pubS (heaS S a),false):=by
 unfold updS heaS
 rw [if_pos h,if_pos h,if_pos hm]
theorem err_false (S:Sp) (l:Int) (a:La) (h:a.o = S.nd) (hm:(hearP S.x S.md a).made = false) (he:(hearP S.x S.md a).err ≠ 0):updS S l a = (heaS S a,false):=by
 unfold updS heaS
 rw [if_pos h,if_pos h,if_neg (by rw [hm]; simp),if_pos he]
theorem dbInst_ok {N:Db} (h:DbOk N) {a:La} (ha:vB a = true → LaValid a):DbOk (instN N a):=fun i x e=>by
 unfold instN at e
 split at e
 ·rename_i hc
  have hv:=ha hc.1
  simp only at e
  split at e
  ·rename_i hi
   injection e with e; subst e
   have:=hv.1
   exact ⟨hv,by simp only; omega,by simp,by simp⟩
  ·exact h i x e
 ·exact h i x e
theorem ty_set6 {w:World} {k:Nat} {T:TypeId} (h:Ty w k T) (g:Nat) (u0 u1 u2 u3 u4 u5:Value):Ty ((((((w.setCell ⟨g,0,none⟩ u0).setCell ⟨g,1,none⟩ u1).setCell ⟨g,2,none⟩ u2).setCell ⟨g,3,none⟩ u3).setCell ⟨g,4,none⟩ u4).setCell ⟨g,5,none⟩ u5) k T :=
 (TyPres.set _ _ _) _ _ ((TyPres.set _ _ _) _ _ ((TyPres.set _ _ _) _ _ ((TyPres.set _ _ _) _ _ ((TyPres.set _ _ _) _ _ ((TyPres.set _ _ _) _ _ h)))))
theorem la_set6 {w:World} {base:Nat} {v:Value} {x:La} (h:LaOwn w base v x) {g:Nat} (hg:g < base) (u0 u1 u2 u3 u4 u5:Value):LaOwn ((((((w.setCell ⟨g,0,none⟩ u0).setCell ⟨g,1,none⟩ u1).setCell ⟨g,2,none⟩ u2).setCell ⟨g,3,none⟩ u3).setCell ⟨g,4,none⟩ u4).setCell ⟨g,5,none⟩ u5) base v x:=by
 obtain ⟨A,c,B,d,rfl,o1,o2,hu⟩:=h
 exact ⟨A,c,B,d,rfl,own_set6 o1 hg u0 u1 u2 u3 u4 u5,own_set6 o2 hg u0 u1 u2 u3 u4 u5,hu⟩
structure UpAt (w wx:World) (m:Sm) (S:Sp) (col:Nat → Nat) (c kb:Nat) (a:La) (A:Option Addr) (ca:Nat) (B:Option Addr) (d:Nat):Prop where
 sp:SpAt wx m S col c
 ev:Ev col c w wx
 la:Fd.LaTf wx a A ca B d
 bx:Box wx kb [.int .i64 a.o,.int .i64 a.s,.int .i64 a.a,.bool a.ov,.slice A a.adj.length ca,.slice B a.pre.length d]
 ty:Ty wx kb 41
theorem UpAt.next {w wx w':World} {m:Sm} {S S':Sp} {col:Nat → Nat} {c kb:Nat} {a:La} {A:Option Addr} {ca:Nat} {B:Option Addr} {d:Nat} (u:UpAt w wx m S col c kb a A ca B d) (h:SpAt w' m S' col c) (v:Ev col c wx w'):UpAt w w' m S' col c kb a A ca B d :=
 ⟨h,u.ev.tr v,v.la u.la,v.boxT u.bx u.ty lsa_imm,v.ty _ _ u.ty⟩
theorem UpAt.below {w wx w':World} {m:Sm} {S:Sp} {col:Nat → Nat} {c kb:Nat} {a:La} {A:Option Addr} {ca:Nat} {B:Option Addr} {d:Nat} (u:UpAt w wx m S col c kb a A ca B d) (hb:Below wx.heap.size wx w'):UpAt w w' m S col c kb a A ca B d:=u.next (u.sp.below hb) (Eff.below hb)
theorem UpAt.ub {w W:World} {m:Sm} {S:Sp} {col:Nat → Nat} {c kb:Nat} {a:La} {A:Option Addr} {ca:Nat} {B:Option Addr} {d:Nat} (u:UpAt w W m S col c kb a A ca B d) :
 W.cell? ⟨kb,0,none⟩ = some (.int .i64 a.o) ∧ W.cell? ⟨kb,1,none⟩ = some (.int .i64 a.s) ∧ W.cell? ⟨kb,2,none⟩ = some (.int .i64 a.a) ∧ W.cell? ⟨kb,3,none⟩ = some (.bool a.ov) ∧ W.cell? ⟨kb,4,none⟩ = some (.slice A a.adj.length ca) ∧ W.cell? ⟨kb,5,none⟩ = some (.slice B a.pre.length d)
 := ⟨u.bx.c 0 rfl,u.bx.c 1 rfl,u.bx.c 2 rfl,u.bx.c 3 rfl,u.bx.c 4 rfl,u.bx.c 5 rfl⟩
theorem SpAt.lcell {w:World} {m:Sm} {S:Sp} {col:Nat → Nat} {c gp:Nat} (h:SpAt w m S col c) (hP:m.P = some ⟨gp,0,none⟩) {i:Nat} (hi:i < S.ps.length):w.cell? ⟨gp,i * 6,none⟩ = some (.int .i64 S.ps[i].l):=by
 obtain ⟨g3,e3,hc3⟩:=h.gp (by omega)
 obtain rfl:g3 = gp:=by rw [hP] at e3; injection e3 with e; injection e with e; exact e.symm
 exact (hc3 i hi).c0
theorem heaS_ps (S:Sp) (a:La):(heaS S a).ps = S.ps:=by unfold heaS; split <;> rfl
theorem heaS_db (S:Sp) (a:La):(heaS S a).db = S.db:=by unfold heaS; split <;> rfl
set_option maxRecDepth 100000 in
set_option maxHeartbeats 6400000 in
theorem recUpd_any (w:World) (m:Sm) (S:Sp) (col:Nat → Nat) (c:Nat) (h:SpAt w m S col c) (hok:DbOk S.db) (gp:Nat) (hP:m.P = some ⟨gp,0,none⟩) (i:Nat) (hi:i < S.ps.length) (p:Po) (hp:S.ps[i] = p) (hl:0 ≤ p.l ∧ p.l < 256)
  (a:La) (A:Option Addr) (ca:Nat) (B:Option Addr) (d:Nat) (hv:Fd.LaTf w a A ca B d) (hva:LaValid a) (hx1:S.x.adj.length ≤ 1000000) (hx2:S.x.pre.length ≤ 1000000) (hs0:0 ≤ S.x.s) (hs1:S.x.s ≤ 1073741824) :
  Calls Tryz.prog 67 #[.pointer (some ⟨m.g,0,none⟩),.pointer (some ⟨gp,i * 6,none⟩),laW a A ca B d] w (SpPost w m col c (updS S p.l a).1 (.bool (updS S p.l a).2)):=by
 obtain ⟨ln,hln⟩:=Int.eq_ofNat_of_zero_le hl.1
 have hln2:ln < 256:=by omega
 rw [hln]
 replace hln:Hid (S.ps[i].l = (ln:Int)):=by rw [hp]; exact hln
 replace hp:=Lib.hid hp
 have S0:=(St.start w).new' #[.int .i64 a.o,.int .i64 a.s,.int .i64 a.a,.bool a.ov,.slice A a.adj.length ca,.slice B a.pre.length d] 41 w.heap.size _ rfl rfl
 have h0:=h.below S0.b
 have v0:Ev col c w _:=Eff.below S0.b
 have l0:=v0.la hv
 have b0:=S0.box 0 rfl
 have t0:=ty_new w #[.int .i64 a.o,.int .i64 a.s,.int .i64 a.a,.bool a.ov,.slice A a.adj.length ca,.slice B a.pre.length d] 41
 have k3:=cell_regrown h0.cs.c3
 have c0:=cell_regrown (S0.c 0 0 rfl rfl)
 have c1:=cell_regrown (S0.c 0 1 rfl rfl)
 have c2:=cell_regrown (S0.c 0 2 rfl rfl)
 have c3:=cell_regrown (S0.c 0 3 rfl rfl)
 have c4:=cell_regrown (S0.c 0 4 rfl rfl)
 have c5:=cell_regrown (S0.c 0 5 rfl rfl)
 replace hv:=Lib.hid hv
 clear S0 h
 go_enter Tryz.func67,Tryz.ntmps67
 go_upto_region 1 with fail
 generalize hw1:World.alloc w _ = w1 at *
 clear hw1
 generalize hkb:w.heap.size = kb at *
 refine wp_region_quiet_below (by kernel_rfl) (by kernel_rfl) ?_
 repeat (go_big_quiet_step (fail))
 refine wpQuiet_nil ?_
 intro _ hw'
 obtain ⟨⟨dq,osq⟩,hw''⟩:=hw'
 subst hw''
 have U2:UpAt w (Sort.grow (redrawn w1 dq) osq) m S col c kb a A ca B d:=UpAt.below ⟨h0,v0,l0,b0,t0⟩ (below_regrown _ dq osq)
 clear h0 v0 l0 b0 t0 k3 hv
 clear c0 c1 c2 c3 c4 c5
 dsimp only
 generalize Sort.grow (redrawn w1 dq) osq = w2 at *
 replace U2:=Lib.hid U2
 go_upto_if 19 with fail
 go_cut [] (fun wx=>UpAt w wx m (heaS S a) col c kb a A ca B d ∧ Hid (a.o = S.nd → (hearP S.x S.md a).made = false ∧ (hearP S.x S.md a).err = 0))
 case first =>
  by_cases ho:a.o = S.nd
  ·have e1:(a.o == S.nd) = true:=by simp [ho]
   have OH:=ohear_keep w2.drew m.go _ S.x a S.md ((U2.out.below (Below.refl _ _).drew).sp.og) (U2.out.below (Below.refl _ _).drew).la.1 hx1 hx2 hs0 hs1
   have U3:=U2.out.below (w':=w2.drew) (Below.refl _ _).drew
   obtain ⟨z1,z2⟩:=hear_sizes S.x S.md a
   have hm1:Hid ((hearP S.x S.md a).made = true → updS S (ln:Int) a = (pubS (heaS S a),false)):=fun hm=>made_false S ln a ho hm
   have hm2:Hid ((hearP S.x S.md a).made = false → (hearP S.x S.md a).err ≠ 0 → updS S (ln:Int) a = (heaS S a,false)):=fun hm he=>err_false S ln a ho hm he
   have hhe:Hid (heaS S a = { S with x:=(hearP S.x S.md a).x,md:=(hearP S.x S.md a).now }):=if_pos ho
   unfold OrKeep OrPost at OH
   generalize hr:hearP S.x S.md a = r at *
   replace hr:=Lib.hid hr
   have i14:=U2.out.sp.cs.c14
   have u0:=U2.out.ub
   replace OH:=Lib.hid OH
   replace ho:=Lib.hid ho
   replace z1:=Lib.hid z1
   replace z2:=Lib.hid z2
   clear U2
   go_upto_region 2 with fail
   refine wp_region_noPanic ?_
   refine wp_region_held_drew (S:=fun W=>W.cell? ⟨m.g,14,none⟩ = some (.pointer (some ⟨m.go,0,none⟩)) ∧
    W.cell? ⟨kb,0,none⟩ = some (.int .i64 a.o) ∧ W.cell? ⟨kb,1,none⟩ = some (.int .i64 a.s) ∧ W.cell? ⟨kb,2,none⟩ = some (.int .i64 a.a) ∧ W.cell? ⟨kb,3,none⟩ = some (.bool a.ov) ∧ W.cell? ⟨kb,4,none⟩ = some (.slice A a.adj.length ca) ∧ W.cell? ⟨kb,5,none⟩ = some (.slice B a.pre.length d)
    ) (by kernel_rfl) ⟨i14,u0⟩ (fun hHeld=>?_)
   refine take_first (i:=0) (v:=?_) (some 21) rfl rfl (by kernel_rfl) (by kernel_rfl) (by kernel_rfl) (fun _ _ _ h=>h) (Or.inl ⟨by rfl,?_⟩) (by assumption) ?_
   rotate_left
   ·intro w hSw; (try dsimp only at hSw); go_simp; (try with_reducible rfl)
   try simp only [Act.put,List.setIfInBounds_toArray,List.set_cons_succ,List.set_cons_zero]
   refine take_first (i:=1) (v:=?_) (some 22) rfl rfl (by kernel_rfl) (by kernel_rfl) (by kernel_rfl) (fun _ _ _ h=>h) (Or.inl ⟨by rfl,?_⟩) (by assumption) ?_
   rotate_left
   ·intro w hSw; (try dsimp only at hSw); go_simp; (try with_reducible rfl)
   try simp only [Act.put,List.setIfInBounds_toArray,List.set_cons_succ,List.set_cons_zero]
   refine take_first (i:=2) (v:=?_) (some 23) rfl rfl (by kernel_rfl) (by kernel_rfl) (by kernel_rfl) (fun _ _ _ h=>h) (Or.inl ⟨by rfl,?_⟩) (by assumption) ?_
   rotate_left
   ·intro w hSw; (try dsimp only at hSw); go_simp; (try with_reducible rfl)
   try simp only [Act.put,List.setIfInBounds_toArray,List.set_cons_succ,List.set_cons_zero]
   refine take_first (i:=3) (v:=?_) (some 24) rfl rfl (by kernel_rfl) (by kernel_rfl) (by kernel_rfl) (fun _ _ _ h=>h) (Or.inl ⟨by rfl,?_⟩) (by assumption) ?_
   rotate_left
   ·intro w hSw; (try dsimp only at hSw); go_simp; (try with_reducible rfl)
   try simp only [Act.put,List.setIfInBounds_toArray,List.set_cons_succ,List.set_cons_zero]
   refine take_first (i:=4) (v:=?_) (some 25) rfl rfl (by kernel_rfl) (by kernel_rfl) (by kernel_rfl) (fun _ _ _ h=>h) (Or.inl ⟨by rfl,?_⟩) (by assumption) ?_
   rotate_left
   ·intro w hSw; (try dsimp only at hSw); go_simp; (try with_reducible rfl)
   try simp only [Act.put,List.setIfInBounds_toArray,List.set_cons_succ,List.set_cons_zero]
   refine wpAnyH_ready (rs:=[5]) (by kernel_rfl) (by simp) ?_
   refine AllReadyH.cons rfl (fun K hK=>?_) AllReadyH.nil
   go_simp
   (with_reducible refine (OH.out).mono ?_)
   rintro e wa ⟨⟨rfl,hO4,hg4⟩,hk4⟩
   dsimp only
   obtain ⟨H4,V4⟩:=U3.sp.ogTurn hg4 hO4 hk4
   have U4:=U3.next H4 V4
   refine hK.out _ _ ⟨U4.sp.cs.c14,U4.ub⟩ (fun hHeld=>?_)
   clear hK K i14 u0 OH hO4 hg4 hk4 H4 V4 U3
   rw [← hhe.out] at U4
   refine take_first (i:=6) (v:=.tuple #[.bool r.made,.int .i64 r.err]) (some 20) rfl rfl (by kernel_rfl) (by kernel_rfl) (by kernel_rfl) (fun _ _ _ h=>h) (Or.inl ⟨by rfl,fun _ _=>rfl⟩) (by assumption) ?_
   try simp only [Act.put,List.setIfInBounds_toArray,List.set_cons_succ,List.set_cons_zero]
   refine take_first (i:=7) (v:=.bool r.made) (some 27) rfl rfl (by kernel_rfl) (by kernel_rfl) (by kernel_rfl) (fun _ _ _ h=>h) (Or.inl ⟨by rfl,fun _ _=>rfl⟩) (by assumption) ?_
   try simp only [Act.put,List.setIfInBounds_toArray,List.set_cons_succ,List.set_cons_zero]
   refine take_first (i:=8) (v:=.int .i64 r.err) (some 28) rfl rfl (by kernel_rfl) (by kernel_rfl) (by kernel_rfl) (fun _ _ _ h=>h) (Or.inl ⟨by rfl,fun _ _=>rfl⟩) (by assumption) ?_
   try simp only [Act.put,List.setIfInBounds_toArray,List.set_cons_succ,List.set_cons_zero]
   refine take_first (i:=9) (v:=.bool r.made) (some 7) rfl rfl (by kernel_rfl) (by kernel_rfl) (by kernel_rfl) (fun _ _ _ h=>h) (Or.inl ⟨by rfl,fun _ _=>rfl⟩) (by assumption) ?_
   try simp only [Act.put,List.setIfInBounds_toArray,List.set_cons_succ,List.set_cons_zero]
   refine take_first (i:=10) (v:=.int .i64 r.err) (some 8) rfl rfl (by kernel_rfl) (by kernel_rfl) (by kernel_rfl) (fun _ _ _ h=>h) (Or.inl ⟨by rfl,fun _ _=>rfl⟩) (by assumption) ?_
   try simp only [Act.put,List.setIfInBounds_toArray,List.set_cons_succ,List.set_cons_zero]
   refine wpAnyH_done (by kernel_rfl) ?_ _
   refine NoPanic.normal ?_
   clear hHeld
   replace U4:=Lib.hid U4
   rcases hm:r.made with _ | _
   ·by_cases he:r.err = 0
    ·have e2:(r.err != 0) = false:=by simp [he]
     have hq:Hid (a.o = S.nd → r.made = false ∧ r.err = 0):=fun _=>⟨hm,he⟩
     replace hm:=Lib.hid hm
     replace he:=Lib.hid he
     go_wp2_with fail
     go_meet
     exact ⟨U4.out,hq⟩
    ·have e2:(r.err != 0) = true:=by simp [he]
     have hf:SpPost w m col c (updS S (ln:Int) a).1 (.bool (updS S (ln:Int) a).2) (.returned (.bool false)) wa:=by
      rw [hm2.out hm he]
      exact ⟨rfl,U4.out.sp,U4.out.ev⟩
     replace hm:=Lib.hid hm
     replace he:=Lib.hid he
     go_wp2_with fail
     go_ret
     exact hf
   ·have PB:=publish_any wa m (heaS S a) col c U4.out.sp (by rw [hhe.out]; simp only [z1.out]; exact hx1) (by rw [hhe.out]; simp only [z2.out]; exact hx2)
    have hfin:Hid (∀ W,SpPost wa m col c (pubS (heaS S a)) (.tuple #[]) (.returned (.tuple #[])) W → SpPost w m col c (updS S (ln:Int) a).1 (.bool (updS S (ln:Int) a).2) (.returned (.bool false)) W):=fun W h2=>by
     rw [hm1.out hm]
     exact ⟨rfl,h2.2.1,U4.out.ev.tr h2.2.2⟩
    replace PB:=Lib.hid PB
    replace hm:=Lib.hid hm
    go_wp2_with fail
    (with_reducible refine (PB.out).mono ?_)
    rintro e w9 P9
    have hf:=hfin.out w9 ⟨by obtain ⟨e,_⟩:=P9; rfl,P9.2⟩
    obtain ⟨rfl,-⟩:=P9
    clear PB hfin
    go_wp2_with fail
    go_ret
    exact hf
  ·have e1:(a.o == S.nd) = false:=by simp [ho]
   have e2:heaS S a = S:=if_neg ho
   have hq:Hid (a.o = S.nd → (hearP S.x S.md a).made = false ∧ (hearP S.x S.md a).err = 0):=fun e=>absurd e ho
   replace e2:=Lib.hid e2
   replace ho:=Lib.hid ho
   go_wp2_with fail
   go_meet
   rw [e2.out]
   exact ⟨U2.out,hq⟩
 case rest =>
  clear U2
  obtain ⟨U2,hnr⟩:=hcut
  have hup:=upd_ins S ln a hnr.out
  have hps:=heaS_ps S a
  have hi2:i < (heaS S a).ps.length:=by rw [hps]; exact hi
  have hlc:Hid ((heaS S a).ps[i].l = (ln:Int)):=by simp only [hps]; exact hln.out
  have hok2:DbOk (heaS S a).db:=by rw [heaS_db]; exact hok
  clear hnr hi hln hp hps hok hl
  generalize heaS S a = S1 at *
  have hok3:DbOk (instN S1.db a):=dbInst_ok hok2 fun _=>hva
  have U3:=U2.below (w':=wc.drew) (Below.refl _ _).drew
  have IN:=Lib.hid (dinstall_any wc.drew m.gd m.bd S1.db _ a U3.sp.db U3.la.1)
  have i12:=U2.sp.cs.c12
  have u0:=U2.ub
  replace hup:=Lib.hid hup
  clear U2 hok2
  go_upto_region 7 with fail
  refine wp_region_noPanic ?_
  refine wp_region_held_drew (S:=fun W=>W.cell? ⟨m.g,12,none⟩ = some (.pointer (some ⟨m.gd,0,none⟩)) ∧
   W.cell? ⟨kb,0,none⟩ = some (.int .i64 a.o) ∧ W.cell? ⟨kb,1,none⟩ = some (.int .i64 a.s) ∧ W.cell? ⟨kb,2,none⟩ = some (.int .i64 a.a) ∧ W.cell? ⟨kb,3,none⟩ = some (.bool a.ov) ∧ W.cell? ⟨kb,4,none⟩ = some (.slice A a.adj.length ca) ∧ W.cell? ⟨kb,5,none⟩ = some (.slice B a.pre.length d)
   ) (by kernel_rfl) ⟨i12,u0⟩ (fun hHeld=>?_)
  refine take_first (i:=0) (v:=?_) (some 38) rfl rfl (by kernel_rfl) (by kernel_rfl) (by kernel_rfl) (fun _ _ _ h=>h) (Or.inl ⟨by rfl,?_⟩) (by assumption) ?_
  rotate_left
  ·intro w hSw; (try dsimp only at hSw); go_simp; (try with_reducible rfl)
  try simp only [Act.put,List.setIfInBounds_toArray,List.set_cons_succ,List.set_cons_zero]
  refine take_first (i:=1) (v:=?_) (some 39) rfl rfl (by kernel_rfl) (by kernel_rfl) (by kernel_rfl) (fun _ _ _ h=>h) (Or.inl ⟨by rfl,?_⟩) (by assumption) ?_
  rotate_left
  ·intro w hSw; (try dsimp only at hSw); go_simp; (try with_reducible rfl)
  try simp only [Act.put,List.setIfInBounds_toArray,List.set_cons_succ,List.set_cons_zero]
  refine take_first (i:=2) (v:=?_) (some 40) rfl rfl (by kernel_rfl) (by kernel_rfl) (by kernel_rfl) (fun _ _ _ h=>h) (Or.inl ⟨by rfl,?_⟩) (by assumption) ?_
  rotate_left
  ·intro w hSw; (try dsimp only at hSw); go_simp; (try with_reducible rfl)
  try simp only [Act.put,List.setIfInBounds_toArray,List.set_cons_succ,List.set_cons_zero]
  refine take_first (i:=3) (v:=?_) (some 41) rfl rfl (by kernel_rfl) (by kernel_rfl) (by kernel_rfl) (fun _ _ _ h=>h) (Or.inl ⟨by rfl,?_⟩) (by assumption) ?_
  rotate_left
  ·intro w hSw; (try dsimp only at hSw); go_simp; (try with_reducible rfl)
  try simp only [Act.put,List.setIfInBounds_toArray,List.set_cons_succ,List.set_cons_zero]
  refine take_first (i:=4) (v:=?_) (some 42) rfl rfl (by kernel_rfl) (by kernel_rfl) (by kernel_rfl) (fun _ _ _ h=>h) (Or.inl ⟨by rfl,?_⟩) (by assumption) ?_
  rotate_left
  ·intro w hSw; (try dsimp only at hSw); go_simp; (try with_reducible rfl)
  try simp only [Act.put,List.setIfInBounds_toArray,List.set_cons_succ,List.set_cons_zero]
  refine wpAnyH_ready (rs:=[5]) (by kernel_rfl) (by simp) ?_
  refine AllReadyH.cons rfl (fun K hK=>?_) AllReadyH.nil
  go_simp
  (with_reducible refine (IN.out).mono ?_)
  rintro e wa ⟨rfl,hD4,hg4⟩
  dsimp only
  obtain ⟨H4,V4⟩:=U3.sp.dbTurn hg4 hD4
  have U4:=U3.next H4 V4
  refine hK.out _ _ ⟨U4.sp.cs.c12,U4.ub⟩ (fun hHeld=>?_)
  clear hK K i12 u0 IN hD4 hg4 H4 V4 U3
  have hin1:Hid (instR S1.db a = 1 → insS S1 (ln:Int) a = ({ S1 with db:=instN S1.db a,fl:=sprF S1.fl a ln },true)):=fun e=>by unfold insS; rw [if_pos e]
  have hin2:Hid (instR S1.db a = 2 → insS S1 (ln:Int) a = ({ S1 with db:=instN S1.db a,fl:=ackL S1.fl ln a },true)):=fun e=>by unfold insS; rw [if_neg (by rw [e]; decide),if_pos e]; rfl
  have hin3:Hid (instR S1.db a ≠ 1 → instR S1.db a ≠ 2 → insS S1 (ln:Int) a = ({ S1 with db:=instN S1.db a,fl:=offL S1.fl ln (getX (getO (instN S1.db a) a.o)) },false)):=fun e e'=>by unfold insS; rw [if_neg e,if_neg e']; rfl
  generalize instR S1.db a = q at *
  generalize instE a = er at *
  refine take_first (i:=6) (v:=.tuple #[.int .i64 q,.int .i64 er]) (some 37) rfl rfl (by kernel_rfl) (by kernel_rfl) (by kernel_rfl) (fun _ _ _ h=>h) (Or.inl ⟨by rfl,fun _ _=>rfl⟩) (by assumption) ?_
  try simp only [Act.put,List.setIfInBounds_toArray,List.set_cons_succ,List.set_cons_zero]
  refine take_first (i:=7) (v:=.int .i64 q) (some 44) rfl rfl (by kernel_rfl) (by kernel_rfl) (by kernel_rfl) (fun _ _ _ h=>h) (Or.inl ⟨by rfl,fun _ _=>rfl⟩) (by assumption) ?_
  try simp only [Act.put,List.setIfInBounds_toArray,List.set_cons_succ,List.set_cons_zero]
  refine take_first (i:=8) (v:=.int .i64 er) (some 45) rfl rfl (by kernel_rfl) (by kernel_rfl) (by kernel_rfl) (fun _ _ _ h=>h) (Or.inl ⟨by rfl,fun _ _=>rfl⟩) (by assumption) ?_
  try simp only [Act.put,List.setIfInBounds_toArray,List.set_cons_succ,List.set_cons_zero]
  refine take_first (i:=9) (v:=.int .i64 q) (some 9) rfl rfl (by kernel_rfl) (by kernel_rfl) (by kernel_rfl) (fun _ _ _ h=>h) (Or.inl ⟨by rfl,fun _ _=>rfl⟩) (by assumption) ?_
  try simp only [Act.put,List.setIfInBounds_toArray,List.set_cons_succ,List.set_cons_zero]
  refine take_first (i:=10) (v:=.int .i64 er) (some 10) rfl rfl (by kernel_rfl) (by kernel_rfl) (by kernel_rfl) (fun _ _ _ h=>h) (Or.inl ⟨by rfl,fun _ _=>rfl⟩) (by assumption) ?_
  try simp only [Act.put,List.setIfInBounds_toArray,List.set_cons_succ,List.set_cons_zero]
  refine wpAnyH_done (by kernel_rfl) ?_ _
  refine NoPanic.normal ?_
  clear hHeld
  have U5:=U4.below (w':=wa.drew) (Below.refl _ _).drew
  have i13:=U4.sp.cs.c13
  have j12:=U4.sp.cs.c12
  have u0:=U4.ub
  have lc:=U4.sp.lcell hP hi2
  rw [show ({ S1 with db:=instN S1.db a }:Sp).ps[i].l = (ln:Int) from hlc.out] at lc
  replace U4:=Lib.hid U4
  by_cases q1:q = 1
  ·have e1:(q == 1) = true:=by simp [q1]
   have SP:=Lib.hid (spr_any wa.drew m _ col c U5.sp _ a U5.la.1 (ln:Int))
   have e2:=hin1.out q1
   rw [e2] at hup
   replace q1:=Lib.hid q1
   replace e2:=Lib.hid e2
   go_upto_region 13 with fail
   refine wp_region_noPanic ?_
   refine wp_region_held_drew (S:=fun W=>W.cell? ⟨m.g,13,none⟩ = some (.pointer (some ⟨m.gf,0,none⟩)) ∧ W.cell? ⟨gp,i * 6,none⟩ = some (.int .i64 (ln:Int)) ∧
    W.cell? ⟨kb,0,none⟩ = some (.int .i64 a.o) ∧ W.cell? ⟨kb,1,none⟩ = some (.int .i64 a.s) ∧ W.cell? ⟨kb,2,none⟩ = some (.int .i64 a.a) ∧ W.cell? ⟨kb,3,none⟩ = some (.bool a.ov) ∧ W.cell? ⟨kb,4,none⟩ = some (.slice A a.adj.length ca) ∧ W.cell? ⟨kb,5,none⟩ = some (.slice B a.pre.length d)
    ) (by kernel_rfl) ⟨i13,lc,u0⟩ (fun hHeld=>?_)
   refine take_first (i:=0) (v:=?_) (some 69) rfl rfl (by kernel_rfl) (by kernel_rfl) (by kernel_rfl) (fun _ _ _ h=>h) (Or.inl ⟨by rfl,?_⟩) (by assumption) ?_
   rotate_left
   ·intro w hSw; (try dsimp only at hSw); go_simp; (try with_reducible rfl)
   try simp only [Act.put,List.setIfInBounds_toArray,List.set_cons_succ,List.set_cons_zero]
   refine take_first (i:=1) (v:=?_) (some 70) rfl rfl (by kernel_rfl) (by kernel_rfl) (by kernel_rfl) (fun _ _ _ h=>h) (Or.inl ⟨by rfl,?_⟩) (by assumption) ?_
   rotate_left
   ·intro w hSw; (try dsimp only at hSw); go_simp; (try with_reducible rfl)
   try simp only [Act.put,List.setIfInBounds_toArray,List.set_cons_succ,List.set_cons_zero]
   refine take_first (i:=2) (v:=?_) (some 71) rfl rfl (by kernel_rfl) (by kernel_rfl) (by kernel_rfl) (fun _ _ _ h=>h) (Or.inl ⟨by rfl,?_⟩) (by assumption) ?_
   rotate_left
   ·intro w hSw; (try dsimp only at hSw); go_simp; (try with_reducible rfl)
   try simp only [Act.put,List.setIfInBounds_toArray,List.set_cons_succ,List.set_cons_zero]
   refine take_first (i:=3) (v:=?_) (some 72) rfl rfl (by kernel_rfl) (by kernel_rfl) (by kernel_rfl) (fun _ _ _ h=>h) (Or.inl ⟨by rfl,?_⟩) (by assumption) ?_
   rotate_left
   ·intro w hSw; (try dsimp only at hSw); go_simp; (try with_reducible rfl)
   try simp only [Act.put,List.setIfInBounds_toArray,List.set_cons_succ,List.set_cons_zero]
   refine take_first (i:=4) (v:=?_) (some 73) rfl rfl (by kernel_rfl) (by kernel_rfl) (by kernel_rfl) (fun _ _ _ h=>h) (Or.inl ⟨by rfl,?_⟩) (by assumption) ?_
   rotate_left
   ·intro w hSw; (try dsimp only at hSw); go_simp; (try with_reducible rfl)
   try simp only [Act.put,List.setIfInBounds_toArray,List.set_cons_succ,List.set_cons_zero]
   refine take_first (i:=5) (v:=?_) (some 74) rfl rfl (by kernel_rfl) (by kernel_rfl) (by kernel_rfl) (fun _ _ _ h=>h) (Or.inl ⟨by rfl,?_⟩) (by assumption) ?_
   rotate_left
   ·intro w hSw; (try dsimp only at hSw); go_simp; (try with_reducible rfl)
   try simp only [Act.put,List.setIfInBounds_toArray,List.set_cons_succ,List.set_cons_zero]
   refine take_first (i:=6) (v:=?_) (some 75) rfl rfl (by kernel_rfl) (by kernel_rfl) (by kernel_rfl) (fun _ _ _ h=>h) (Or.inl ⟨by rfl,?_⟩) (by assumption) ?_
   rotate_left
   ·intro w hSw; (try dsimp only at hSw); go_simp; (try with_reducible rfl)
   try simp only [Act.put,List.setIfInBounds_toArray,List.set_cons_succ,List.set_cons_zero]
   refine take_first (i:=7) (v:=?_) (some 76) rfl rfl (by kernel_rfl) (by kernel_rfl) (by kernel_rfl) (fun _ _ _ h=>h) (Or.inl ⟨by rfl,?_⟩) (by assumption) ?_
   rotate_left
   ·intro w hSw; (try dsimp only at hSw); go_simp; (try with_reducible rfl)
   try simp only [Act.put,List.setIfInBounds_toArray,List.set_cons_succ,List.set_cons_zero]
   refine take_first (i:=8) (v:=?_) (some 77) rfl rfl (by kernel_rfl) (by kernel_rfl) (by kernel_rfl) (fun _ _ _ h=>h) (Or.inl ⟨by rfl,?_⟩) (by assumption) ?_
   rotate_left
   ·intro w hSw; (try dsimp only at hSw); go_simp; (try with_reducible rfl)
   try simp only [Act.put,List.setIfInBounds_toArray,List.set_cons_succ,List.set_cons_zero]
   refine wpAnyH_ready (rs:=[9]) (by kernel_rfl) (by simp) ?_
   refine AllReadyH.cons rfl (fun K hK=>?_) AllReadyH.nil
   go_simp
   (with_reducible refine (SP.out).mono ?_)
   rintro e wb ⟨⟨rr,rfl⟩,H6,V6⟩
   dsimp only
   have U6:=U5.next H6 V6
   have lc6:=U6.sp.lcell hP hi2
   rw [show ({ S1 with db:=instN S1.db a,fl:=sprF S1.fl a ln }:Sp).ps[i].l = (ln:Int) from hlc.out] at lc6
   have hf:SpPost w m col c (updS S (ln:Int) a).1 (.bool (updS S (ln:Int) a).2) (.returned (.bool true)) wb:=by
    rw [hup.out]
    exact ⟨rfl,U6.sp,U6.ev⟩
   refine hK.out _ _ ⟨U6.sp.cs.c13,lc6,U6.ub⟩ (fun hHeld=>?_)
   clear hK K hHeld U6 H6 V6 lc6 SP i13 lc u0 U5 hin1 hin2 hin3
   refine wpAnyH_done (by kernel_rfl) ?_ _
   refine NoPanic.normal ?_
   go_wp2_with fail
   go_ret
   exact hf
  ·have e1:(q == 1) = false:=by simp [q1]
   by_cases q2:q = 2
   ·have e2:(q == 2) = true:=by simp [q2]
    have SP:=Lib.hid (sack_any wa.drew m _ col c U5.sp ln hln2 _ a U5.la.1 (wf64 (by have:=hva.1; omega) (by have:=hva.1; omega)))
    have e3:=hin2.out q2
    rw [e3] at hup
    replace q1:=Lib.hid q1
    replace q2:=Lib.hid q2
    replace e3:=Lib.hid e3
    go_upto_region 15 with fail
    refine wp_region_noPanic ?_
    refine wp_region_held_drew (S:=fun W=>W.cell? ⟨m.g,13,none⟩ = some (.pointer (some ⟨m.gf,0,none⟩)) ∧ W.cell? ⟨gp,i * 6,none⟩ = some (.int .i64 (ln:Int)) ∧
     W.cell? ⟨kb,0,none⟩ = some (.int .i64 a.o) ∧ W.cell? ⟨kb,1,none⟩ = some (.int .i64 a.s) ∧ W.cell? ⟨kb,2,none⟩ = some (.int .i64 a.a) ∧ W.cell? ⟨kb,3,none⟩ = some (.bool a.ov) ∧ W.cell? ⟨kb,4,none⟩ = some (.slice A a.adj.length ca) ∧ W.cell? ⟨kb,5,none⟩ = some (.slice B a.pre.length d)
     ) (by kernel_rfl) ⟨i13,lc,u0⟩ (fun hHeld=>?_)
    refine take_first (i:=0) (v:=?_) (some 81) rfl rfl (by kernel_rfl) (by kernel_rfl) (by kernel_rfl) (fun _ _ _ h=>h) (Or.inl ⟨by rfl,?_⟩) (by assumption) ?_
    rotate_left
    ·intro w hSw; (try dsimp only at hSw); go_simp; (try with_reducible rfl)
    try simp only [Act.put,List.setIfInBounds_toArray,List.set_cons_succ,List.set_cons_zero]
    refine take_first (i:=1) (v:=?_) (some 82) rfl rfl (by kernel_rfl) (by kernel_rfl) (by kernel_rfl) (fun _ _ _ h=>h) (Or.inl ⟨by rfl,?_⟩) (by assumption) ?_
    rotate_left
    ·intro w hSw; (try dsimp only at hSw); go_simp; (try with_reducible rfl)
    try simp only [Act.put,List.setIfInBounds_toArray,List.set_cons_succ,List.set_cons_zero]
    refine take_first (i:=2) (v:=?_) (some 83) rfl rfl (by kernel_rfl) (by kernel_rfl) (by kernel_rfl) (fun _ _ _ h=>h) (Or.inl ⟨by rfl,?_⟩) (by assumption) ?_
    rotate_left
    ·intro w hSw; (try dsimp only at hSw); go_simp; (try with_reducible rfl)
    try simp only [Act.put,List.setIfInBounds_toArray,List.set_cons_succ,List.set_cons_zero]
    refine take_first (i:=3) (v:=?_) (some 84) rfl rfl (by kernel_rfl) (by kernel_rfl) (by kernel_rfl) (fun _ _ _ h=>h) (Or.inl ⟨by rfl,?_⟩) (by assumption) ?_
    rotate_left
    ·intro w hSw; (try dsimp only at hSw); go_simp; (try with_reducible rfl)
    try simp only [Act.put,List.setIfInBounds_toArray,List.set_cons_succ,List.set_cons_zero]
    refine take_first (i:=4) (v:=?_) (some 85) rfl rfl (by kernel_rfl) (by kernel_rfl) (by kernel_rfl) (fun _ _ _ h=>h) (Or.inl ⟨by rfl,?_⟩) (by assumption) ?_
    rotate_left
    ·intro w hSw; (try dsimp only at hSw); go_simp; (try with_reducible rfl)
    try simp only [Act.put,List.setIfInBounds_toArray,List.set_cons_succ,List.set_cons_zero]
    refine take_first (i:=5) (v:=?_) (some 86) rfl rfl (by kernel_rfl) (by kernel_rfl) (by kernel_rfl) (fun _ _ _ h=>h) (Or.inl ⟨by rfl,?_⟩) (by assumption) ?_
    rotate_left
    ·intro w hSw; (try dsimp only at hSw); go_simp; (try with_reducible rfl)
    try simp only [Act.put,List.setIfInBounds_toArray,List.set_cons_succ,List.set_cons_zero]
    refine take_first (i:=6) (v:=?_) (some 87) rfl rfl (by kernel_rfl) (by kernel_rfl) (by kernel_rfl) (fun _ _ _ h=>h) (Or.inl ⟨by rfl,?_⟩) (by assumption) ?_
    rotate_left
    ·intro w hSw; (try dsimp only at hSw); go_simp; (try with_reducible rfl)
    try simp only [Act.put,List.setIfInBounds_toArray,List.set_cons_succ,List.set_cons_zero]
    refine take_first (i:=7) (v:=?_) (some 88) rfl rfl (by kernel_rfl) (by kernel_rfl) (by kernel_rfl) (fun _ _ _ h=>h) (Or.inl ⟨by rfl,?_⟩) (by assumption) ?_
    rotate_left
    ·intro w hSw; (try dsimp only at hSw); go_simp; (try with_reducible rfl)
    try simp only [Act.put,List.setIfInBounds_toArray,List.set_cons_succ,List.set_cons_zero]
    refine take_first (i:=8) (v:=?_) (some 89) rfl rfl (by kernel_rfl) (by kernel_rfl) (by kernel_rfl) (fun _ _ _ h=>h) (Or.inl ⟨by rfl,?_⟩) (by assumption) ?_
    rotate_left
    ·intro w hSw; (try dsimp only at hSw); go_simp; (try with_reducible rfl)
    try simp only [Act.put,List.setIfInBounds_toArray,List.set_cons_succ,List.set_cons_zero]
    refine wpAnyH_ready (rs:=[9]) (by kernel_rfl) (by simp) ?_
    refine AllReadyH.cons rfl (fun K hK=>?_) AllReadyH.nil
    go_simp
    (with_reducible refine (SP.out).mono ?_)
    rintro e wb ⟨⟨bb,rr,rfl⟩,H6,V6⟩
    dsimp only
    have U6:=U5.next H6 V6
    have lc6:=U6.sp.lcell hP hi2
    rw [show ({ S1 with db:=instN S1.db a,fl:=ackL S1.fl ln a }:Sp).ps[i].l = (ln:Int) from hlc.out] at lc6
    have hf:SpPost w m col c (updS S (ln:Int) a).1 (.bool (updS S (ln:Int) a).2) (.returned (.bool true)) wb:=by
     rw [hup.out]
     exact ⟨rfl,U6.sp,U6.ev⟩
    refine hK.out _ _ ⟨U6.sp.cs.c13,lc6,U6.ub⟩ (fun hHeld=>?_)
    clear hK K hHeld U6 H6 V6 lc6 SP i13 lc u0 U5 hin1 hin2 hin3
    refine wpAnyH_done (by kernel_rfl) ?_ _
    refine NoPanic.normal ?_
    go_wp2_with fail
    go_ret
    exact hf
   ·have e2:(q == 2) = false:=by simp [q2]
    have e3:=hin3.out q1 q2
    rw [e3] at hup
    have GT:=Lib.hid (dget_any wa.drew m.gd m.bd _ a.o (wf64 (by have:=hva.1; omega) (by have:=hva.1; omega)) U5.sp.db hok3.few)
    unfold GetPost at GT
    obtain ⟨hd,hhd⟩:∃ hd,getO (instN S1.db a) a.o = hd:=⟨_,rfl⟩
    rw [hhd] at GT
    rw [hhd] at hup
    replace q1:=Lib.hid q1
    replace q2:=Lib.hid q2
    replace hhd:=Lib.hid hhd
    clear hin1 hin2 hin3
    replace e3:=Lib.hid e3
    go_upto_region 9 with fail
    refine wp_region_noPanic ?_
    refine wp_region_held_drew (S:=fun W=>W.cell? ⟨m.g,12,none⟩ = some (.pointer (some ⟨m.gd,0,none⟩)) ∧ W.cell? ⟨kb,0,none⟩ = some (.int .i64 a.o)) (by kernel_rfl) ⟨j12,u0.1⟩ (fun hHeld=>?_)
    refine take_first (i:=0) (v:=?_) (some 48) rfl rfl (by kernel_rfl) (by kernel_rfl) (by kernel_rfl) (fun _ _ _ h=>h) (Or.inl ⟨by rfl,?_⟩) (by assumption) ?_
    rotate_left
    ·intro w hSw; (try dsimp only at hSw); go_simp; (try with_reducible rfl)
    try simp only [Act.put,List.setIfInBounds_toArray,List.set_cons_succ,List.set_cons_zero]
    refine take_first (i:=1) (v:=?_) (some 49) rfl rfl (by kernel_rfl) (by kernel_rfl) (by kernel_rfl) (fun _ _ _ h=>h) (Or.inl ⟨by rfl,?_⟩) (by assumption) ?_
    rotate_left
    ·intro w hSw; (try dsimp only at hSw); go_simp; (try with_reducible rfl)
    try simp only [Act.put,List.setIfInBounds_toArray,List.set_cons_succ,List.set_cons_zero]
    refine take_first (i:=2) (v:=?_) (some 50) rfl rfl (by kernel_rfl) (by kernel_rfl) (by kernel_rfl) (fun _ _ _ h=>h) (Or.inl ⟨by rfl,?_⟩) (by assumption) ?_
    rotate_left
    ·intro w hSw; (try dsimp only at hSw); go_simp; (try with_reducible rfl)
    try simp only [Act.put,List.setIfInBounds_toArray,List.set_cons_succ,List.set_cons_zero]
    refine take_first (i:=3) (v:=?_) (some 51) rfl rfl (by kernel_rfl) (by kernel_rfl) (by kernel_rfl) (fun _ _ _ h=>h) (Or.inl ⟨by rfl,?_⟩) (by assumption) ?_
    rotate_left
    ·intro w hSw; (try dsimp only at hSw); go_simp; (try with_reducible rfl)
    try simp only [Act.put,List.setIfInBounds_toArray,List.set_cons_succ,List.set_cons_zero]
    refine take_first (i:=4) (v:=?_) (some 52) rfl rfl (by kernel_rfl) (by kernel_rfl) (by kernel_rfl) (fun _ _ _ h=>h) (Or.inl ⟨by rfl,?_⟩) (by assumption) ?_
    rotate_left
    ·intro w hSw; (try dsimp only at hSw); go_simp; (try with_reducible rfl)
    try simp only [Act.put,List.setIfInBounds_toArray,List.set_cons_succ,List.set_cons_zero]
    refine take_first (i:=5) (v:=?_) (some 53) rfl rfl (by kernel_rfl) (by kernel_rfl) (by kernel_rfl) (fun _ _ _ h=>h) (Or.inl ⟨by rfl,?_⟩) (by assumption) ?_
    rotate_left
    ·intro w hSw; (try dsimp only at hSw); go_simp; (try with_reducible rfl)
    try simp only [Act.put,List.setIfInBounds_toArray,List.set_cons_succ,List.set_cons_zero]
    refine wpAnyH_ready (rs:=[6,10]) (by kernel_rfl) (by simp) ?_
    refine AllReadyH.cons rfl (fun K hK=>?_) (AllReadyH.cons rfl (fun K hK=>?_) AllReadyH.nil)
    ·go_simp
     (with_reducible refine (GT.out).mono ?_)
     rintro e wb ⟨v,rfl,hown,hb⟩
     dsimp only
     obtain ⟨A2,c2,B2,d2,hv2⟩:=hown.at.form
     subst hv2
     have U6:=U5.below hb
     refine hK.out _ _ ⟨U6.sp.cs.c12,U6.ub.1⟩ (fun hHeld=>?_)
     clear hK K
     refine take_first (i:=7) (v:=.tuple #[laW (getX hd) A2 c2 B2 d2,.bool hd.isSome]) (some 47) rfl rfl (by kernel_rfl) (by kernel_rfl) (by kernel_rfl) (fun _ _ _ h=>h) (Or.inl ⟨by rfl,fun _ _=>rfl⟩) (by assumption) ?_
     try simp only [Act.put,List.setIfInBounds_toArray,List.set_cons_succ,List.set_cons_zero]
     refine take_first (i:=8) (v:=laW (getX hd) A2 c2 B2 d2) (some 55) rfl rfl (by kernel_rfl) (by kernel_rfl) (by kernel_rfl) (fun _ _ _ h=>h) (Or.inl ⟨by rfl,fun _ _=>rfl⟩) (by assumption) ?_
     try simp only [Act.put,List.setIfInBounds_toArray,List.set_cons_succ,List.set_cons_zero]
     refine take_first (i:=9) (v:=.bool hd.isSome) (some 56) rfl rfl (by kernel_rfl) (by kernel_rfl) (by kernel_rfl) (fun _ _ _ h=>h) (Or.inl ⟨by rfl,fun _ _=>rfl⟩) (by assumption) ?_
     try simp only [Act.put,List.setIfInBounds_toArray,List.set_cons_succ,List.set_cons_zero]
     refine wpAnyH_ready (rs:=[10]) (by kernel_rfl) (by simp) ?_
     refine AllReadyH.cons rfl (fun K hK=>?_) AllReadyH.nil
     have b7:=below_new' wb (.cells #[.int .i64 0,.int .i64 0,.int .i64 0,.bool false,.slice none 0 0,.slice none 0 0] 41)
     have S7:=((St.start wb).new' #[.int .i64 0,.int .i64 0,.int .i64 0,.bool false,.slice none 0 0,.slice none 0 0] 41 wb.heap.size _ rfl rfl)
     have U7:=U6.below b7
     have hk7:wb.heap.size ≤ wb.heap.size:=Nat.le_refl _
     go_simp
     refine hK.out _ _ ⟨U7.sp.cs.c12,U7.ub.1⟩ (fun hHeld=>?_)
     clear hK K
     have S8:=S7.set6 (getX hd).o (getX hd).s (getX hd).a (getX hd).ov (.slice A2 (getX hd).adj.length c2) (.slice B2 (getX hd).pre.length d2) hk7 (by simp)
     have L8:=(hown.below S8.b).at
     have U8:=U6.below S8.b
     have T8:Hid (Ty _ wb.heap.size 41):=ty_set6 (ty_new wb #[.int .i64 0,.int .i64 0,.int .i64 0,.bool false,.slice none 0 0,.slice none 0 0] 41) wb.heap.size (.int .i64 (getX hd).o) (.int .i64 (getX hd).s) (.int .i64 (getX hd).a) (.bool (getX hd).ov) (.slice A2 (getX hd).adj.length c2) (.slice B2 (getX hd).pre.length d2)
     generalize World.alloc wb _ = w7 at *
     generalize wb.heap.size = k at *
     have e0:=S7.c 0 0 rfl rfl
     have e1:=S7.c 0 1 rfl rfl
     have e2:=S7.c 0 2 rfl rfl
     have e3:=S7.c 0 3 rfl rfl
     have e4:=S7.c 0 4 rfl rfl
     have e5:=S7.c 0 5 rfl rfl
     have f0:=S7.f 0 0 rfl rfl
     have f1:=S7.f 0 1 rfl rfl
     have f2:=S7.f 0 2 rfl rfl
     have f3:=S7.f 0 3 rfl rfl
     have f4:=S7.f 0 4 rfl rfl
     have f5:=S7.f 0 5 rfl rfl
     refine wpAnyH_ready (rs:=[11]) (by kernel_rfl) (by simp) ?_
     refine AllReadyH.cons rfl (fun K hK=>?_) AllReadyH.nil
     go_simp
     refine hK.out _ _ ⟨U8.sp.cs.c12,U8.ub.1⟩ (fun hHeld=>?_)
     clear hK K
     clear e0 e1 e2 e3 e4 e5
     clear f0 f1 f2 f3 f4 f5
     refine take_first (i:=12) (v:=.bool hd.isSome) (some 12) rfl rfl (by kernel_rfl) (by kernel_rfl) (by kernel_rfl) (fun _ _ _ h=>h) (Or.inl ⟨by rfl,fun _ _=>rfl⟩) (by assumption) ?_
     try simp only [Act.put,List.setIfInBounds_toArray,List.set_cons_succ,List.set_cons_zero]
     refine wpAnyH_done (by kernel_rfl) ?_ _
     refine NoPanic.normal ?_
     clear hHeld S7 U7
     generalize World.setCell _ _ _ = w8 at *
     have U9:=U8.below (w':=w8.drew) (Below.refl _ _).drew
     have L9:=L8.below (w':=w8.drew) (Below.refl _ _).drew
     have i13:=U8.sp.cs.c13
     have lc:=U8.sp.lcell hP hi2
     rw [show ({ S1 with db:=instN S1.db a }:Sp).ps[i].l = (ln:Int) from hlc.out] at lc
     have SO:=Lib.hid (soff_any w8.drew m _ col c U9.sp ln hln2 _ _ L9)
     have e9:=S8.box 0 rfl
     have f9:(∀ W,Box W k [.int .i64 (getX hd).o,.int .i64 (getX hd).s,.int .i64 (getX hd).a,.bool (getX hd).ov,.slice A2 (getX hd).adj.length c2,.slice B2 (getX hd).pre.length d2] → W.cell? ⟨k,0,none⟩ = some (.int .i64 (getX hd).o) ∧ W.cell? ⟨k,1,none⟩ = some (.int .i64 (getX hd).s) ∧ W.cell? ⟨k,2,none⟩ = some (.int .i64 (getX hd).a) ∧ W.cell? ⟨k,3,none⟩ = some (.bool (getX hd).ov) ∧ W.cell? ⟨k,4,none⟩ = some (.slice A2 (getX hd).adj.length c2) ∧ W.cell? ⟨k,5,none⟩ = some (.slice B2 (getX hd).pre.length d2)):=fun W h=>⟨h.c 0 rfl,h.c 1 rfl,h.c 2 rfl,h.c 3 rfl,h.c 4 rfl,h.c 5 rfl⟩
     have g9:=f9 _ e9
     clear S8 U8 L8 L9
     go_upto_region 10 with fail
     refine wp_region_noPanic ?_
     refine wp_region_held_drew (S:=fun W=>W.cell? ⟨m.g,13,none⟩ = some (.pointer (some ⟨m.gf,0,none⟩)) ∧ W.cell? ⟨gp,i * 6,none⟩ = some (.int .i64 (ln:Int)) ∧ W.cell? ⟨k,0,none⟩ = some (.int .i64 (getX hd).o) ∧ W.cell? ⟨k,1,none⟩ = some (.int .i64 (getX hd).s) ∧ W.cell? ⟨k,2,none⟩ = some (.int .i64 (getX hd).a) ∧ W.cell? ⟨k,3,none⟩ = some (.bool (getX hd).ov) ∧ W.cell? ⟨k,4,none⟩ = some (.slice A2 (getX hd).adj.length c2) ∧ W.cell? ⟨k,5,none⟩ = some (.slice B2 (getX hd).pre.length d2)) (by kernel_rfl) ⟨i13,lc,g9⟩ (fun hHeld=>?_)
     refine take_first (i:=0) (v:=?_) (some 57) rfl rfl (by kernel_rfl) (by kernel_rfl) (by kernel_rfl) (fun _ _ _ h=>h) (Or.inl ⟨by rfl,?_⟩) (by assumption) ?_
     rotate_left
     ·intro w hSw; (try dsimp only at hSw); go_simp; (try with_reducible rfl)
     try simp only [Act.put,List.setIfInBounds_toArray,List.set_cons_succ,List.set_cons_zero]
     refine take_first (i:=1) (v:=?_) (some 58) rfl rfl (by kernel_rfl) (by kernel_rfl) (by kernel_rfl) (fun _ _ _ h=>h) (Or.inl ⟨by rfl,?_⟩) (by assumption) ?_
     rotate_left
     ·intro w hSw; (try dsimp only at hSw); go_simp; (try with_reducible rfl)
     try simp only [Act.put,List.setIfInBounds_toArray,List.set_cons_succ,List.set_cons_zero]
     refine take_first (i:=2) (v:=?_) (some 59) rfl rfl (by kernel_rfl) (by kernel_rfl) (by kernel_rfl) (fun _ _ _ h=>h) (Or.inl ⟨by rfl,?_⟩) (by assumption) ?_
     rotate_left
     ·intro w hSw; (try dsimp only at hSw); go_simp; (try with_reducible rfl)
     try simp only [Act.put,List.setIfInBounds_toArray,List.set_cons_succ,List.set_cons_zero]
     refine take_first (i:=3) (v:=?_) (some 60) rfl rfl (by kernel_rfl) (by kernel_rfl) (by kernel_rfl) (fun _ _ _ h=>h) (Or.inl ⟨by rfl,?_⟩) (by assumption) ?_
     rotate_left
     ·intro w hSw; (try dsimp only at hSw); go_simp; (try with_reducible rfl)
     try simp only [Act.put,List.setIfInBounds_toArray,List.set_cons_succ,List.set_cons_zero]
     refine take_first (i:=4) (v:=?_) (some 61) rfl rfl (by kernel_rfl) (by kernel_rfl) (by kernel_rfl) (fun _ _ _ h=>h) (Or.inl ⟨by rfl,?_⟩) (by assumption) ?_
     rotate_left
     ·intro w hSw; (try dsimp only at hSw); go_simp; (try with_reducible rfl)
     try simp only [Act.put,List.setIfInBounds_toArray,List.set_cons_succ,List.set_cons_zero]
     refine take_first (i:=5) (v:=?_) (some 62) rfl rfl (by kernel_rfl) (by kernel_rfl) (by kernel_rfl) (fun _ _ _ h=>h) (Or.inl ⟨by rfl,?_⟩) (by assumption) ?_
     rotate_left
     ·intro w hSw; (try dsimp only at hSw); go_simp; (try with_reducible rfl)
     try simp only [Act.put,List.setIfInBounds_toArray,List.set_cons_succ,List.set_cons_zero]
     refine take_first (i:=6) (v:=?_) (some 63) rfl rfl (by kernel_rfl) (by kernel_rfl) (by kernel_rfl) (fun _ _ _ h=>h) (Or.inl ⟨by rfl,?_⟩) (by assumption) ?_
     rotate_left
     ·intro w hSw; (try dsimp only at hSw); go_simp; (try with_reducible rfl)
     try simp only [Act.put,List.setIfInBounds_toArray,List.set_cons_succ,List.set_cons_zero]
     refine take_first (i:=7) (v:=?_) (some 64) rfl rfl (by kernel_rfl) (by kernel_rfl) (by kernel_rfl) (fun _ _ _ h=>h) (Or.inl ⟨by rfl,?_⟩) (by assumption) ?_
     rotate_left
     ·intro w hSw; (try dsimp only at hSw); go_simp; (try with_reducible rfl)
     try simp only [Act.put,List.setIfInBounds_toArray,List.set_cons_succ,List.set_cons_zero]
     refine take_first (i:=8) (v:=?_) (some 65) rfl rfl (by kernel_rfl) (by kernel_rfl) (by kernel_rfl) (fun _ _ _ h=>h) (Or.inl ⟨by rfl,?_⟩) (by assumption) ?_
     rotate_left
     ·intro w hSw; (try dsimp only at hSw); go_simp; (try with_reducible rfl)
     try simp only [Act.put,List.setIfInBounds_toArray,List.set_cons_succ,List.set_cons_zero]
     refine wpAnyH_ready (rs:=[9]) (by kernel_rfl) (by simp) ?_
     refine AllReadyH.cons rfl (fun K hK=>?_) AllReadyH.nil
     go_simp
     (with_reducible refine (SO.out).mono ?_)
     rintro e wc2 ⟨⟨rr,rfl⟩,H10,V10⟩
     dsimp only
     have U10:=U9.next H10 V10
     have lc10:=U10.sp.lcell hP hi2
     rw [show ({ S1 with db:=instN S1.db a,fl:=offL S1.fl ln (getX hd) }:Sp).ps[i].l = (ln:Int) from hlc.out] at lc10
     have hf:SpPost w m col c (updS S (ln:Int) a).1 (.bool (updS S (ln:Int) a).2) (.returned (.bool false)) wc2:=by
      rw [hup.out]
      exact ⟨rfl,U10.sp,U10.ev⟩
     refine hK.out _ _ ⟨U10.sp.cs.c13,lc10,f9 _ (V10.boxT (e9.drew) T8.out lsa_imm)⟩ (fun hHeld=>?_)
     clear hK K hHeld U10 H10 V10 lc10 SO i13 lc e9 f9 g9 T8
     refine wpAnyH_done (by kernel_rfl) ?_ _
     refine NoPanic.normal ?_
     go_wp2_with fail
     go_ret
     exact hf
    ·have b7:=below_new' wa.drew (.cells #[.int .i64 0,.int .i64 0,.int .i64 0,.bool false,.slice none 0 0,.slice none 0 0] 41)
     have S6:=((St.start wa.drew).new' #[.int .i64 0,.int .i64 0,.int .i64 0,.bool false,.slice none 0 0,.slice none 0 0] 41 wa.heap.size _ rfl rfl)
     have U6:=U5.below b7
     have T6:=ty_new wa.drew #[.int .i64 0,.int .i64 0,.int .i64 0,.bool false,.slice none 0 0,.slice none 0 0] 41
     have e6:World.alloc wa.drew (.cells #[.int .i64 0,.int .i64 0,.int .i64 0,.bool false,.slice none 0 0,.slice none 0 0] 41) = (World.alloc wa (.cells #[.int .i64 0,.int .i64 0,.int .i64 0,.bool false,.slice none 0 0,.slice none 0 0] 41)).drew:=rfl
     rw [e6] at b7 S6 U6 T6
     clear GT e6
     have GT:=Lib.hid (dget_any _ m.gd m.bd _ a.o (wf64 (by have:=hva.1; omega) (by have:=hva.1; omega)) U6.sp.db hok3.few)
     unfold GetPost at GT
     rw [hhd.out] at GT
     go_simp
     refine hK.out _ _ ⟨U6.sp.cs.c12,U6.ub.1⟩ (fun hHeld=>?_)
     clear hK K
     have hk6:wa.heap.size < (World.alloc wa (.cells #[.int .i64 0,.int .i64 0,.int .i64 0,.bool false,.slice none 0 0,.slice none 0 0] 41)).drew.heap.size:=(S6.box 0 rfl).lt (by simp)
     have T6':Ty _ wa.heap.size 41:=T6
     clear T6
     generalize World.drew (World.alloc wa _) = w6 at *
     refine wpAnyH_ready (rs:=[6]) (by kernel_rfl) (by simp) ?_
     refine AllReadyH.cons rfl (fun K hK=>?_) AllReadyH.nil
     go_simp
     (with_reducible refine (GT.out).mono ?_)
     rintro e w7 ⟨v,rfl,hown,hb⟩
     dsimp only
     obtain ⟨A2,c2,B2,d2,hv2⟩:=hown.at.form
     subst hv2
     have U7:=U6.below hb
     have S7:=S6.call hb
     have T7:=TyPres.below hb _ _ T6'
     refine hK.out _ _ ⟨U7.sp.cs.c12,U7.ub.1⟩ (fun hHeld=>?_)
     clear hK K
     refine take_first (i:=7) (v:=.tuple #[laW (getX hd) A2 c2 B2 d2,.bool hd.isSome]) (some 47) rfl rfl (by kernel_rfl) (by kernel_rfl) (by kernel_rfl) (fun _ _ _ h=>h) (Or.inl ⟨by rfl,fun _ _=>rfl⟩) (by assumption) ?_
     try simp only [Act.put,List.setIfInBounds_toArray,List.set_cons_succ,List.set_cons_zero]
     refine take_first (i:=8) (v:=laW (getX hd) A2 c2 B2 d2) (some 55) rfl rfl (by kernel_rfl) (by kernel_rfl) (by kernel_rfl) (fun _ _ _ h=>h) (Or.inl ⟨by rfl,fun _ _=>rfl⟩) (by assumption) ?_
     try simp only [Act.put,List.setIfInBounds_toArray,List.set_cons_succ,List.set_cons_zero]
     refine take_first (i:=9) (v:=.bool hd.isSome) (some 56) rfl rfl (by kernel_rfl) (by kernel_rfl) (by kernel_rfl) (fun _ _ _ h=>h) (Or.inl ⟨by rfl,fun _ _=>rfl⟩) (by assumption) ?_
     try simp only [Act.put,List.setIfInBounds_toArray,List.set_cons_succ,List.set_cons_zero]
     have hk7:wa.drew.heap.size ≤ wa.heap.size:=Nat.le_refl _
     have S8:=S7.set6 (getX hd).o (getX hd).s (getX hd).a (getX hd).ov (.slice A2 (getX hd).adj.length c2) (.slice B2 (getX hd).pre.length d2) hk7 (by simp)
     have L8:=(la_set6 hown hk6 (.int .i64 (getX hd).o) (.int .i64 (getX hd).s) (.int .i64 (getX hd).a) (.bool (getX hd).ov) (.slice A2 (getX hd).adj.length c2) (.slice B2 (getX hd).pre.length d2)).at
     have U8:=U5.below S8.b
     have T8:Hid (Ty _ wa.heap.size 41):=ty_set6 T7 wa.heap.size (.int .i64 (getX hd).o) (.int .i64 (getX hd).s) (.int .i64 (getX hd).a) (.bool (getX hd).ov) (.slice A2 (getX hd).adj.length c2) (.slice B2 (getX hd).pre.length d2)
     clear hk6 T6' S6 U6 T7 hown hb b7 GT
     generalize hk:wa.heap.size = k at *
     have e0:=S7.c 0 0 rfl rfl
     have e1:=S7.c 0 1 rfl rfl
     have e2:=S7.c 0 2 rfl rfl
     have e3:=S7.c 0 3 rfl rfl
     have e4:=S7.c 0 4 rfl rfl
     have e5:=S7.c 0 5 rfl rfl
     have f0:=S7.f 0 0 rfl rfl
     have f1:=S7.f 0 1 rfl rfl
     have f2:=S7.f 0 2 rfl rfl
     have f3:=S7.f 0 3 rfl rfl
     have f4:=S7.f 0 4 rfl rfl
     have f5:=S7.f 0 5 rfl rfl
     refine wpAnyH_ready (rs:=[11]) (by kernel_rfl) (by simp) ?_
     refine AllReadyH.cons rfl (fun K hK=>?_) AllReadyH.nil
     go_simp
     refine hK.out _ _ ⟨U8.sp.cs.c12,U8.ub.1⟩ (fun hHeld=>?_)
     clear hK K
     clear e0 e1 e2 e3 e4 e5
     clear f0 f1 f2 f3 f4 f5
     refine take_first (i:=12) (v:=.bool hd.isSome) (some 12) rfl rfl (by kernel_rfl) (by kernel_rfl) (by kernel_rfl) (fun _ _ _ h=>h) (Or.inl ⟨by rfl,fun _ _=>rfl⟩) (by assumption) ?_
     try simp only [Act.put,List.setIfInBounds_toArray,List.set_cons_succ,List.set_cons_zero]
     refine wpAnyH_done (by kernel_rfl) ?_ _
     refine NoPanic.normal ?_
     clear hHeld S7 U7
     generalize World.setCell _ _ _ = w8 at *
     have U9:=U8.below (w':=w8.drew) (Below.refl _ _).drew
     have L9:=L8.below (w':=w8.drew) (Below.refl _ _).drew
     have i13:=U8.sp.cs.c13
     have lc:=U8.sp.lcell hP hi2
     rw [show ({ S1 with db:=instN S1.db a }:Sp).ps[i].l = (ln:Int) from hlc.out] at lc
     have SO:=Lib.hid (soff_any w8.drew m _ col c U9.sp ln hln2 _ _ L9)
     have e9:=S8.box 0 rfl
     have f9:(∀ W,Box W k [.int .i64 (getX hd).o,.int .i64 (getX hd).s,.int .i64 (getX hd).a,.bool (getX hd).ov,.slice A2 (getX hd).adj.length c2,.slice B2 (getX hd).pre.length d2] → W.cell? ⟨k,0,none⟩ = some (.int .i64 (getX hd).o) ∧ W.cell? ⟨k,1,none⟩ = some (.int .i64 (getX hd).s) ∧ W.cell? ⟨k,2,none⟩ = some (.int .i64 (getX hd).a) ∧ W.cell? ⟨k,3,none⟩ = some (.bool (getX hd).ov) ∧ W.cell? ⟨k,4,none⟩ = some (.slice A2 (getX hd).adj.length c2) ∧ W.cell? ⟨k,5,none⟩ = some (.slice B2 (getX hd).pre.length d2)):=fun W h=>⟨h.c 0 rfl,h.c 1 rfl,h.c 2 rfl,h.c 3 rfl,h.c 4 rfl,h.c 5 rfl⟩
     have g9:=f9 _ e9
     clear S8 U8 L8 L9
     go_upto_region 10 with fail
     refine wp_region_noPanic ?_
     refine wp_region_held_drew (S:=fun W=>W.cell? ⟨m.g,13,none⟩ = some (.pointer (some ⟨m.gf,0,none⟩)) ∧ W.cell? ⟨gp,i * 6,none⟩ = some (.int .i64 (ln:Int)) ∧ W.cell? ⟨k,0,none⟩ = some (.int .i64 (getX hd).o) ∧ W.cell? ⟨k,1,none⟩ = some (.int .i64 (getX hd).s) ∧ W.cell? ⟨k,2,none⟩ = some (.int .i64 (getX hd).a) ∧ W.cell? ⟨k,3,none⟩ = some (.bool (getX hd).ov) ∧ W.cell? ⟨k,4,none⟩ = some (.slice A2 (getX hd).adj.length c2) ∧ W.cell? ⟨k,5,none⟩ = some (.slice B2 (getX hd).pre.length d2)) (by kernel_rfl) ⟨i13,lc,g9⟩ (fun hHeld=>?_)
     refine take_first (i:=0) (v:=?_) (some 57) rfl rfl (by kernel_rfl) (by kernel_rfl) (by kernel_rfl) (fun _ _ _ h=>h) (Or.inl ⟨by rfl,?_⟩) (by assumption) ?_
     rotate_left
     ·intro w hSw; (try dsimp only at hSw); go_simp; (try with_reducible rfl)
     try simp only [Act.put,List.setIfInBounds_toArray,List.set_cons_succ,List.set_cons_zero]
     refine take_first (i:=1) (v:=?_) (some 58) rfl rfl (by kernel_rfl) (by kernel_rfl) (by kernel_rfl) (fun _ _ _ h=>h) (Or.inl ⟨by rfl,?_⟩) (by assumption) ?_
     rotate_left
     ·intro w hSw; (try dsimp only at hSw); go_simp; (try with_reducible rfl)
     try simp only [Act.put,List.setIfInBounds_toArray,List.set_cons_succ,List.set_cons_zero]
     refine take_first (i:=2) (v:=?_) (some 59) rfl rfl (by kernel_rfl) (by kernel_rfl) (by kernel_rfl) (fun _ _ _ h=>h) (Or.inl ⟨by rfl,?_⟩) (by assumption) ?_
     rotate_left
     ·intro w hSw; (try dsimp only at hSw); go_simp; (try with_reducible rfl)
     try simp only [Act.put,List.setIfInBounds_toArray,List.set_cons_succ,List.set_cons_zero]
     refine take_first (i:=3) (v:=?_) (some 60) rfl rfl (by kernel_rfl) (by kernel_rfl) (by kernel_rfl) (fun _ _ _ h=>h) (Or.inl ⟨by rfl,?_⟩) (by assumption) ?_
     rotate_left
     ·intro w hSw; (try dsimp only at hSw); go_simp; (try with_reducible rfl)
     try simp only [Act.put,List.setIfInBounds_toArray,List.set_cons_succ,List.set_cons_zero]
     refine take_first (i:=4) (v:=?_) (some 61) rfl rfl (by kernel_rfl) (by kernel_rfl) (by kernel_rfl) (fun _ _ _ h=>h) (Or.inl ⟨by rfl,?_⟩) (by assumption) ?_
     rotate_left
     ·intro w hSw; (try dsimp only at hSw); go_simp; (try with_reducible rfl)
     try simp only [Act.put,List.setIfInBounds_toArray,List.set_cons_succ,List.set_cons_zero]
     refine take_first (i:=5) (v:=?_) (some 62) rfl rfl (by kernel_rfl) (by kernel_rfl) (by kernel_rfl) (fun _ _ _ h=>h) (Or.inl ⟨by rfl,?_⟩) (by assumption) ?_
     rotate_left
     ·intro w hSw; (try dsimp only at hSw); go_simp; (try with_reducible rfl)
     try simp only [Act.put,List.setIfInBounds_toArray,List.set_cons_succ,List.set_cons_zero]
     refine take_first (i:=6) (v:=?_) (some 63) rfl rfl (by kernel_rfl) (by kernel_rfl) (by kernel_rfl) (fun _ _ _ h=>h) (Or.inl ⟨by rfl,?_⟩) (by assumption) ?_
     rotate_left
     ·intro w hSw; (try dsimp only at hSw); go_simp; (try with_reducible rfl)
     try simp only [Act.put,List.setIfInBounds_toArray,List.set_cons_succ,List.set_cons_zero]
     refine take_first (i:=7) (v:=?_) (some 64) rfl rfl (by kernel_rfl) (by kernel_rfl) (by kernel_rfl) (fun _ _ _ h=>h) (Or.inl ⟨by rfl,?_⟩) (by assumption) ?_
     rotate_left
     ·intro w hSw; (try dsimp only at hSw); go_simp; (try with_reducible rfl)
     try simp only [Act.put,List.setIfInBounds_toArray,List.set_cons_succ,List.set_cons_zero]
     refine take_first (i:=8) (v:=?_) (some 65) rfl rfl (by kernel_rfl) (by kernel_rfl) (by kernel_rfl) (fun _ _ _ h=>h) (Or.inl ⟨by rfl,?_⟩) (by assumption) ?_
     rotate_left
     ·intro w hSw; (try dsimp only at hSw); go_simp; (try with_reducible rfl)
     try simp only [Act.put,List.setIfInBounds_toArray,List.set_cons_succ,List.set_cons_zero]
     refine wpAnyH_ready (rs:=[9]) (by kernel_rfl) (by simp) ?_
     refine AllReadyH.cons rfl (fun K hK=>?_) AllReadyH.nil
     go_simp
     (with_reducible refine (SO.out).mono ?_)
     rintro e wc2 ⟨⟨rr,rfl⟩,H10,V10⟩
     dsimp only
     have U10:=U9.next H10 V10
     have lc10:=U10.sp.lcell hP hi2
     rw [show ({ S1 with db:=instN S1.db a,fl:=offL S1.fl ln (getX hd) }:Sp).ps[i].l = (ln:Int) from hlc.out] at lc10
     have hf:SpPost w m col c (updS S (ln:Int) a).1 (.bool (updS S (ln:Int) a).2) (.returned (.bool false)) wc2:=by
      rw [hup.out]
      exact ⟨rfl,U10.sp,U10.ev⟩
     refine hK.out _ _ ⟨U10.sp.cs.c13,lc10,f9 _ (V10.boxT (e9.drew) T8.out lsa_imm)⟩ (fun hHeld=>?_)
     clear hK K hHeld U10 H10 V10 lc10 SO i13 lc e9 f9 g9 T8
     refine wpAnyH_done (by kernel_rfl) ?_ _
     refine NoPanic.normal ?_
     go_wp2_with fail
     go_ret
     exact hf
end Go.Proofs.YtehimhbgakpenaaGreat
