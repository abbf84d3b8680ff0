/-
  The texts SpE, SpF, SpG, one after the other.
-/
import Derived.Test.YtehimhbgakpenaaGreatQPWith40
import Derived.Deep.RegionLaw
import Derived.Test.YtehimhbgakpenaaGreatQPWith41
import Derived.Test.YtehimhbgakpenaaGreatQPWith36
import Derived.Deep.RegionHeld3
namespace Go.Proofs.YtehimhbgakpenaaGreat
set_option linter.unusedVariables false
open Go.RowKit Go.Maps Go.Sort
theorem adjS_next (ps:List Po) (k:Nat) (hk:k < ps.length):adjS (ps.take (k + 1)) = if ps[k].ph = 2 then adjS (ps.take k) ++ [(ps[k].o,ps[k].l,ps[k].c)] else adjS (ps.take k):=by
 unfold adjS
 rw [List.take_succ_eq_append_getElem hk,List.filterMap_append]
 by_cases h:ps[k].ph = 2
 ·simp [h]
 ·simp [h]
theorem adjS_len (ps:List Po):(adjS ps).length ≤ ps.length:=by unfold adjS; exact List.length_filterMap_le _ _
structure OgAt (w wr:World) (m:Sm) (S:Sp) (k:Nat) (A:Option Addr) (ca:Nat):Prop where
 b:Below w.heap.size w wr
 bx:Box wr w.heap.size [.bool S.ov,.slice A (adjS (S.ps.take k)).length ca,.slice m.B S.pre.length m.cb]
 ow:wr.ownsRow (w.heap.size + 1) 169 3 (.slice A (adjS (S.ps.take k)).length ca) (adjS (S.ps.take k)).length (adV (adjS (S.ps.take k)))
section
variable {w wr w':World} {m:Sm} {S:Sp} {k:Nat} {A:Option Addr} {ca:Nat}
theorem OgAt.below (h:OgAt w wr m S k A ca) (hb:Below wr.heap.size wr w'):OgAt w w' m S k A ca:=⟨h.b.trans (hb.mono h.b.size),h.bx.later hb,own_below h.ow hb⟩
theorem OgAt.hs (h:OgAt w wr m S k A ca):w.heap.size + 1 ≤ wr.heap.size:=by have:=h.bx.lt (by simp); omega
theorem OgAt.skip (h:OgAt w wr m S k A ca) (hk:k < S.ps.length) (hp:S.ps[k].ph ≠ 2):OgAt w wr m S (k + 1) A ca:=by
 have e:adjS (S.ps.take (k + 1)) = adjS (S.ps.take k):=by rw [adjS_next _ _ hk,if_neg hp]
 exact ⟨h.b,by rw [e]; exact h.bx,by rw [e]; exact h.ow⟩
theorem OgAt.keep (h:OgAt w wr m S k A ca) (hg:wr.grownBy w' (Value.slice A (adjS (S.ps.take k)).length ca).ownBlock):Box w' w.heap.size [.bool S.ov,.slice A (adjS (S.ps.take k)).length ca,.slice m.B S.pre.length m.cb] :=
 h.bx.kept hg (fun e=>by have:=(h.ow.lt _ e.symm).1; omega) (by simp)
theorem OgAt.put (h:OgAt w wr m S k A ca) (hk:k < S.ps.length) (hp:S.ps[k].ph = 2) (hg:wr.grownBy w' (Value.slice A (adjS (S.ps.take k)).length ca).ownBlock) {A':Option Addr} {ca':Nat}
  (ho:w'.ownsRow (w.heap.size + 1) 169 3 (.slice A' ((adjS (S.ps.take k)).length + 1) ca') ((adjS (S.ps.take k)).length + 1) (adV (adjS (S.ps.take k)) ++ [.int .i64 S.ps[k].o,.int .i64 S.ps[k].l,.int .i64 S.ps[k].c])) :
  OgAt w (w'.setCell ⟨w.heap.size,1,none⟩ (.slice A' ((adjS (S.ps.take k)).length + 1) ca')) m S (k + 1) A' ca':=by
 have e:adjS (S.ps.take (k + 1)) = adjS (S.ps.take k) ++ [(S.ps[k].o,S.ps[k].l,S.ps[k].c)]:=by rw [adjS_next _ _ hk,if_pos hp]
 have el:(adjS (S.ps.take (k + 1))).length = (adjS (S.ps.take k)).length + 1:=by rw [e]; simp
 have hb:=below_own h.b h.ow hg (by omega) h.b.size
 refine ⟨hb.setCell (p:=⟨w.heap.size,1,none⟩) (Nat.le_refl _) _,?_,?_⟩
 ·rw [el]
  exact (h.keep hg).set 1 _ (by simp)
 ·rw [el,e,adV_append]
  exact ownsRow_setCell_below (a:=⟨w.heap.size,1,none⟩) ho (by simp only; omega) _
end
theorem con_at {w wr:World} {m:Sm} {S:Sp} {A:Option Addr} {ca:Nat} {col:Nat → Nat} {c:Nat} (h:SpAt w m S col c) (o:OgAt w wr m S S.ps.length A ca):CoAt wr (coV S.ov A (adjS S.ps).length ca m.B S.pre.length m.cb) (conS S):=by
 have ho:=o.ow
 rw [List.take_length] at ho
 obtain ⟨r,l1,l2,_⟩:=own_read ho
 exact ⟨A,ca,m.B,m.cb,rfl,r,h.rB.1.below o.b,l1,l2,h.lB.1,h.lB.2.1,h.lB.2.2⟩
set_option maxRecDepth 100000 in
set_option maxHeartbeats 6400000 in
theorem originate_any (w:World) (m:Sm) (S:Sp) (col:Nat → Nat) (c:Nat) (h:SpAt w m S col c) (hpl:S.ps.length ≤ 512) (hpr:S.pre.length ≤ 1000000) (hs0:0 ≤ S.x.s) (hs1:S.x.s ≤ 1073741824)
  (hx1:(setP S.x S.md (conS S)).x.adj.length ≤ 1000000) (hx2:(setP S.x S.md (conS S)).x.pre.length ≤ 1000000) :
  Calls Tryz.prog 41 #[.pointer (some ⟨m.g,0,none⟩)] w (SpPost w m col c (origS S) (.tuple #[])):=by
 have hal:=adjS_len S.ps
 have OS:=fun W A ca (o:OgAt w W m S S.ps.length A ca)=>oset_keep W.drew m.go _ S.x (conS S) S.md (((h.below o.b).below (w':=W.drew) (Below.refl _ _).drew).og) ((con_at h o).below (Below.refl _ _).drew) (by simp only [conS]; omega) (by simp only [conS]; exact hpr) hs0 hs1
 obtain ⟨r,hr⟩:∃ r,setP S.x S.md (conS S) = r:=⟨_,rfl⟩
 rw [hr] at OS hx1 hx2
 unfold OrKeep OrPost at OS
 have hmade:Hid (r.made = true → ∀ w1 w',SpAt w1 m { S with x:=r.x,md:=r.now } col c → Ev col c w w1 → SpPost w1 m col c (pubS { S with x:=r.x,md:=r.now }) (.tuple #[]) (.returned (.tuple #[])) w' → SpPost w m col c (origS S) (.tuple #[]) (.returned (.tuple #[])) w'):=fun e w1 w' _ h1 h2=>by
  have e2:origS S = pubS { S with x:=r.x,md:=r.now }:=by unfold origS; rw [hr,if_pos e]
  rw [e2]
  exact ⟨rfl,h2.2.1,h1.tr h2.2.2⟩
 have hnot:Hid (r.made = false → ∀ w1,SpAt w1 m { S with x:=r.x,md:=r.now } col c → Ev col c w w1 → SpPost w m col c (origS S) (.tuple #[]) (.returned (.tuple #[])) w1):=fun e w1 h0 h1=>by
  have e2:origS S = { S with x:=r.x,md:=r.now }:=by unfold origS; rw [hr,if_neg (by rw [e]; simp)]
  rw [e2]
  exact ⟨rfl,h0,h1⟩
 clear hr
 have hgp:=fun (hn:0 < S.ps.length)=>h.gp hn
 have C:=h.cs
 have hb1:=below_new' w (.cells #[.bool false,.slice none 0 0,.slice none 0 0] 164)
 have k10:=cell_later hb1 C.c10
 have k11:=cell_later hb1 C.c11
 have k9:=C.c9
 have i10:=C.c10
 have i11:=C.c11
 replace hgp:=Lib.hid hgp
 replace OS:=Lib.hid OS
 replace h:=Lib.hid h
 clear hb1 C
 go_enter Tryz.func41,Tryz.ntmps41
 go_upto_region 0 with fail
 go_cut [2] (fun v2 wx=>v2 = .pointer (some ⟨w.heap.size,0,none⟩) ∧ wx = (w.alloc (.cells #[.bool S.ov,.slice none 0 0,.slice m.B S.pre.length m.cb] 164)).drew)
 case first =>
  go_region_law (fail)
  all_goals
   go_wp2_with fail
   go_meet
   exact ⟨rfl,rfl⟩
 case rest =>
  obtain ⟨rfl,rfl⟩:=hcut
  have O:OgAt w (w.alloc (.cells #[.bool S.ov,.slice none 0 0,.slice m.B S.pre.length m.cb] 164)).drew m S 0 none 0:=by
   have hb:=below_new' w (.cells #[.bool S.ov,.slice none 0 0,.slice m.B S.pre.length m.cb] 164)
   exact ⟨hb.drew,(Box.new' w _ _ _ _ rfl rfl).drew,World.ownsRow_nil _ _ _ _⟩
  generalize (w.alloc _).drew = w2 at *
  have i9:=cell_later O.b k9
  clear k10 k11 k9 i10 i11
  go_wp2_with fail
  clear i9
  go_loopw [21] (fun v21 wr=>∃ (i:Nat) (A:Option Addr) (ca:Nat),v21 = .int .i64 i ∧ i ≤ S.ps.length ∧ Hid (OgAt w wr m S i A ca)) (fun v21 _=>S.ps.length - (intOf v21).toNat)
  case atStart=>exact ⟨0,none,0,rfl,by omega,O⟩
  case round =>
   clear O
   obtain ⟨i,A,ca,rfl,hi,O⟩:=hrel
   by_cases hin:i < S.ps.length
   ·obtain ⟨gp,hP,hc⟩:=hgp.out (by omega)
    have hp:=hc i hin
    have hskip:=fun h2=>O.out.skip hin h2
    have hput:=fun (h2:S.ps[i].ph = 2) W {w':World} {A':Option Addr} {ca':Nat} (o:OgAt w W m S i A ca) (hg:W.grownBy w' _) ho=>o.put (A':=A') (ca':=ca') hin h2 hg ho
    obtain ⟨p,hpe⟩:∃ p,S.ps[i] = p:=⟨_,rfl⟩
    rw [hpe] at hp hskip
    simp only [hpe] at hput
    have c0:=cell_later O.out.b hp.c0
    have c1:=cell_later O.out.b hp.c1
    have c2:=cell_later O.out.b hp.c2
    have c3:=cell_later O.out.b hp.c3
    have c4:=cell_later O.out.b hp.c4
    have c4':=cell_later O.out.b hp.c4'
    have c5:=cell_later O.out.b hp.c5
    have hnl:(adjS (S.ps.take i)).length ≤ 512:=by have:=adjS_len (S.ps.take i); rw [List.length_take] at this; omega
    replace hskip:=Lib.hid hskip
    replace hput:=Lib.hid hput
    clear hp hc hpe
    have bnew:=below_new' wr (.cells #[.int .i64 p.l,.int .i64 p.o,.int .i64 p.c,.int .i64 p.ph,.int .i64 p.lf,.int .i64 p.bt] 118)
    have pb:=Box.new' wr #[.int .i64 p.l,.int .i64 p.o,.int .i64 p.c,.int .i64 p.ph,.int .i64 p.lf,.int .i64 p.bt] 118 wr.heap.size _ rfl rfl
    have O2:=O.out.below bnew
    rw [hP]
    go_upto_region 4 with fail
    clear c0 c1 c2 c3 c4 c4' c5
    have q0:=pb.c 0 rfl
    have q1:=pb.c 1 rfl
    have q2:=pb.c 2 rfl
    have q3:=pb.c 3 rfl
    by_cases hph:p.ph = 2
    ·have e1:(p.ph == 2) = true:=by simp [hph]
     replace hph:=Lib.hid hph
     go_upto_region 5 with fail
     generalize hw3:World.alloc wr _ = w3 at *
     clear hw3
     clear e1 q3
     have bx2:=O2.bx.c 1 rfl
     have hb4:=below_new' w3 (.cells #[.int .i64 p.o,.int .i64 p.l,.int .i64 p.c] 169)
     have O3:=O2.below hb4
     have rd3:=Rd.lit w3 #[.int .i64 p.o,.int .i64 p.l,.int .i64 p.c] 169
     have bx3:=O3.bx.c 1 rfl
     have ow3:=O3.ow
     have hs3:=O3.hs
     have one3:∀ u ∈ [Value.int .i64 p.o,.int .i64 p.l,.int .i64 p.c],u.oneCell' = true:=by
      intro u hu
      simp only [List.mem_cons,List.not_mem_nil,or_false] at hu
      rcases hu with rfl | rfl | rfl <;> rfl
     have hk6:Hid (∀ w6,(w3.alloc (.cells #[.int .i64 p.o,.int .i64 p.l,.int .i64 p.c] 169)).grownBy w6 (Value.slice A (adjS (S.ps.take i)).length ca).ownBlock → w6.cell? ⟨w.heap.size,1,none⟩ = some (.slice A (adjS (S.ps.take i)).length ca) ∧ w6.frozen? ⟨w.heap.size,1,none⟩ = false):=fun w6 hg6=>⟨(O3.keep hg6).c 1 rfl,(O3.keep hg6).f 1 rfl⟩
     have O3':=Lib.hid O3
     clear O O2 O3 bnew pb
     generalize (adjS (S.ps.take i)).length = na at *
     go_wp2_with (at_builtin; refine wpList_appG rfl adT (.tmp 30) (.tmp 38) rfl (w.heap.size + 1) rfl ow3 (m:=1) rfl rfl rd3 one3 (by simp only [maxLen]; omega) (by omega) hs3 (na + 1) _ rfl rfl ?_; intro v6 w6 o6 hb6 hg6; obtain ⟨q0,q1⟩:=hk6.out _ hg6; obtain ⟨A6,c6,rfl,-⟩:=own_rd o6; have O9:=Lib.hid (hput.out hph.out _ O3'.out hg6 o6))
     go_round
     case rel=>exact ⟨i + 1,A6,c6,by go_num,by omega,O9⟩
     case measure=>simp [intOf]; omega
    ·have e1:(p.ph == 2) = false:=by simp [hph]
     have O4:=Lib.hid ((hskip.out hph).below bnew)
     clear hph O O2 pb
     go_wp2_with fail
     go_round
     case rel=>exact ⟨i + 1,A,ca,by go_num,by omega,O4⟩
     case measure=>simp [intOf]; omega
   ·obtain rfl:S.ps.length = i:=by omega
    have e1:decide ((S.ps.length:Int) < (S.ps.length:Int)) = false:=by simp
    have OS2:=OS.out wr A ca O.out
    have B2:=O.out.b
    have H2:=(h.out.below B2)
    have i14:=H2.cs.c14
    have bb:=O.out.bx
    rw [List.take_length] at bb
    have b0:=bb.c 0 rfl
    have b1:=bb.c 1 rfl
    have b2:=bb.c 2 rfl
    have bb0:=bb.drew
    have H3:=H2.below (w':=wr.drew) (Below.refl _ _).drew
    have V3:Ev col c w wr.drew:=Eff.below B2.drew
    replace OS2:=Lib.hid OS2
    clear O OS bb hgp H2 B2
    have bbx:=Lib.hid bb0
    clear bb0
    go_upto_region 7 with fail
    refine wp_region_noPanic ?_
    refine wp_region_held_drew (S:=fun W=>W.cell? ⟨m.g,14,none⟩ = some (.pointer (some ⟨m.go,0,none⟩)) ∧ W.cell? ⟨w.heap.size,0,none⟩ = some (.bool S.ov) ∧ W.cell? ⟨w.heap.size,1,none⟩ = some (.slice A (adjS S.ps).length ca) ∧ W.cell? ⟨w.heap.size,2,none⟩ = some (.slice m.B S.pre.length m.cb)) (by kernel_rfl) ⟨i14,b0,b1,b2⟩ (fun hHeld=>?_)
    refine take_first (i:=0) (v:=?_) (some 43) rfl rfl (by kernel_rfl) (by kernel_rfl) (by kernel_rfl) (fun _ _ _ h=>h) (Or.inl ⟨by rfl,?_⟩) (by assumption) ?_
    rotate_left
    ·intro w hSw; (try dsimp only at hSw); go_simp; (try with_reducible rfl)
    try simp only [Act.put,List.setIfInBounds_toArray,List.set_cons_succ,List.set_cons_zero]
    refine take_first (i:=1) (v:=?_) (some 44) rfl rfl (by kernel_rfl) (by kernel_rfl) (by kernel_rfl) (fun _ _ _ h=>h) (Or.inl ⟨by rfl,?_⟩) (by assumption) ?_
    rotate_left
    ·intro w hSw; (try dsimp only at hSw); go_simp; (try with_reducible rfl)
    try simp only [Act.put,List.setIfInBounds_toArray,List.set_cons_succ,List.set_cons_zero]
    refine take_first (i:=2) (v:=?_) (some 45) rfl rfl (by kernel_rfl) (by kernel_rfl) (by kernel_rfl) (fun _ _ _ h=>h) (Or.inl ⟨by rfl,?_⟩) (by assumption) ?_
    rotate_left
    ·intro w hSw; (try dsimp only at hSw); go_simp; (try with_reducible rfl)
    try simp only [Act.put,List.setIfInBounds_toArray,List.set_cons_succ,List.set_cons_zero]
    refine take_first (i:=3) (v:=?_) (some 46) rfl rfl (by kernel_rfl) (by kernel_rfl) (by kernel_rfl) (fun _ _ _ h=>h) (Or.inl ⟨by rfl,?_⟩) (by assumption) ?_
    rotate_left
    ·intro w hSw; (try dsimp only at hSw); go_simp; (try with_reducible rfl)
    try simp only [Act.put,List.setIfInBounds_toArray,List.set_cons_succ,List.set_cons_zero]
    refine take_first (i:=4) (v:=?_) (some 47) rfl rfl (by kernel_rfl) (by kernel_rfl) (by kernel_rfl) (fun _ _ _ h=>h) (Or.inl ⟨by rfl,?_⟩) (by assumption) ?_
    rotate_left
    ·intro w hSw; (try dsimp only at hSw); go_simp; (try with_reducible rfl)
    try simp only [Act.put,List.setIfInBounds_toArray,List.set_cons_succ,List.set_cons_zero]
    refine wpAnyH_ready (rs:=[5]) (by kernel_rfl) (by simp) ?_
    refine AllReadyH.cons rfl (fun K hK=>?_) AllReadyH.nil
    go_simp
    (with_reducible refine (OS2.out).mono ?_)
    rintro e wa ⟨⟨rfl,hO4,hg4⟩,hk4⟩
    dsimp only
    obtain ⟨H4,V4⟩:=H3.ogTurn hg4 hO4 hk4
    have bb4:=bbx.out.kept hg4 (by intro e; injection e with e; have:=h.out.og.lt; omega) (by simp)
    refine hK.out _ _ ⟨H4.cs.c14,bb4.c 0 rfl,bb4.c 1 rfl,bb4.c 2 rfl⟩ (fun hHeld=>?_)
    clear hK K i14 b0 b1 b2 OS2 hO4 hg4 hk4
    refine take_first (i:=6) (v:=.tuple #[.bool r.made,.int .i64 r.err]) (some 42) rfl rfl (by kernel_rfl) (by kernel_rfl) (by kernel_rfl) (fun _ _ _ h=>h) (Or.inl ⟨by rfl,fun _ _=>rfl⟩) (by assumption) ?_
    try simp only [Act.put,List.setIfInBounds_toArray,List.set_cons_succ,List.set_cons_zero]
    refine take_first (i:=7) (v:=.bool r.made) (some 49) rfl rfl (by kernel_rfl) (by kernel_rfl) (by kernel_rfl) (fun _ _ _ h=>h) (Or.inl ⟨by rfl,fun _ _=>rfl⟩) (by assumption) ?_
    try simp only [Act.put,List.setIfInBounds_toArray,List.set_cons_succ,List.set_cons_zero]
    refine take_first (i:=8) (v:=.int .i64 r.err) (some 50) rfl rfl (by kernel_rfl) (by kernel_rfl) (by kernel_rfl) (fun _ _ _ h=>h) (Or.inl ⟨by rfl,fun _ _=>rfl⟩) (by assumption) ?_
    try simp only [Act.put,List.setIfInBounds_toArray,List.set_cons_succ,List.set_cons_zero]
    refine take_first (i:=9) (v:=.bool r.made) (some 5) rfl rfl (by kernel_rfl) (by kernel_rfl) (by kernel_rfl) (fun _ _ _ h=>h) (Or.inl ⟨by rfl,fun _ _=>rfl⟩) (by assumption) ?_
    try simp only [Act.put,List.setIfInBounds_toArray,List.set_cons_succ,List.set_cons_zero]
    refine take_first (i:=10) (v:=.int .i64 r.err) (some 6) rfl rfl (by kernel_rfl) (by kernel_rfl) (by kernel_rfl) (fun _ _ _ h=>h) (Or.inl ⟨by rfl,fun _ _=>rfl⟩) (by assumption) ?_
    try simp only [Act.put,List.setIfInBounds_toArray,List.set_cons_succ,List.set_cons_zero]
    refine wpAnyH_done (by kernel_rfl) ?_ _
    refine NoPanic.normal ?_
    have V5:=V3.tr V4
    clear hHeld bb4 V3 V4 H3 bbx
    rcases hm:r.made with _ | _
    ·have hf:=hnot.out hm wa H4 V5
     clear hm hmade hnot H4 V5
     go_wp2_with fail
     exact bodyPost_end (v:=.tuple #[]) (by simp [results,Tryz.results41,go_sem]) rfl hf
    ·have PB:=publish_any wa m _ col c H4 hx1 hx2
     have hm2:=Lib.hid (hmade.out hm wa)
     replace PB:=Lib.hid PB
     clear hm hmade hnot
     go_wp2_with fail
     (with_reducible refine (PB.out).mono ?_)
     rintro e w9 P9
     have hf:=hm2.out w9 H4 V5 ⟨rfl,P9.2⟩
     obtain ⟨rfl,-⟩:=P9
     clear PB hm2 H4 V5
     go_wp2_with fail
     exact bodyPost_end (v:=.tuple #[]) (by simp [results,Tryz.results41,go_sem]) rfl hf
end Go.Proofs.YtehimhbgakpenaaGreat

namespace Go.Proofs.YtehimhbgakpenaaGreat
set_option linter.unusedVariables false
open Go.RowKit Go.Maps Go.Sort
def fdx (s:Lx):Fd.Lx:=⟨s.y,s.A,s.c,s.B,s.d⟩
theorem fdx_V (l:List Lx):Fd.lxV (l.map fdx) = lxV l:=by
 induction l with
 | nil=>rfl
 | cons s l ih=>simp only [List.map_cons,Fd.lxV,lxV,ih]; rfl
theorem fdx_L (l:List Lx):Fd.laL (l.map fdx) = laL l:=by
 induction l with
 | nil=>rfl
 | cons s l ih=>simp only [List.map_cons,Fd.laL,laL] at ih ⊢; rw [ih]; rfl
def ToPost (w:World) (m:Sm) (col:Nat → Nat) (c:Nat) (S':Sp) (v:Value) (e:Ending) (w':World):Prop:=e = .returned v ∧ SpTo w m col c S' w'
theorem SpTo.of {w w':World} {m:Sm} {S':Sp} {col:Nat → Nat} {c:Nat} (h:SpAt w' m S' col c) (v:Ev col c w w'):SpTo w m col c S' w':=⟨m,col,⟨rfl,rfl,rfl,rfl,rfl⟩,fun _ _=>rfl,h,v⟩
theorem sup_any (w:World) (m:Sm) (S:Sp) (col:Nat → Nat) (c:Nat) (h:SpAt w m S col c) (hok:DbOk S.db) (i:Nat) (hi:i < 256) (A:Option Addr) (n d:Nat) (ls:List Lx) (hA:Rd w A (lxV ls)) (hn:ls.length = n) (hn2:n ≤ 64) (hl:laL ls = allN S.db) (hls:∀ s ∈ ls,LxOk w s) (hv:∀ a ∈ allN S.db,LaValid a) :
  Calls Tryz.prog 144 #[.pointer (some ⟨m.gf,0,none⟩),.int .i64 (i:Int),.slice A n d] w (ToPost w m col c { S with fl:=Fd.setN S.fl i (Fd.offs (fun _=>none) (allN S.db)) } (.int .i64 0)):=by
 have U:=Fd.fup_any w m.gf m.bf S.h3 S.fl m.ff h.fl i hi A n d (ls.map fdx) (by rw [fdx_V]; exact hA) (by rw [List.length_map]; exact hn) (by omega) (fun s hs=>by
  obtain ⟨z,hz,rfl⟩:=List.mem_map.1 hs
  exact ⟨hls z hz,hv _ (by rw [← hl]; exact List.mem_map.2 ⟨z,hz,rfl⟩)⟩)
 rw [fdx_L,hl] at U
 refine U.mono ?_
 rintro e w' ⟨rfl,k,hk,hf,hg⟩
 obtain ⟨col',h1,h2,h3⟩:=h.flMap hg hf (fun j hj hs=>by
  unfold Fd.setN at hs
  by_cases e:j = i
  ·left; simp only [if_pos e]; exact hk
  ·right; rw [if_neg e] at hs; exact ⟨hs,if_neg e⟩)
 exact ⟨rfl,{ m with ff:=fun j=>if j = i then k else m.ff j },col',⟨rfl,rfl,rfl,rfl,rfl⟩,h1,h2,h3⟩
theorem sdown_any (w:World) (m:Sm) (S:Sp) (col:Nat → Nat) (c:Nat) (h:SpAt w m S col c) (i:Nat) (hi:i < 256) (hs:(S.fl i).isSome = true) :
  Calls Tryz.prog 145 #[.pointer (some ⟨m.gf,0,none⟩),.int .i64 (i:Int)] w (ToPost w m col c { S with fl:=Fd.dropN S.fl i } (.int .i64 0)):=by
 obtain ⟨D,hD⟩:=Option.isSome_iff_exists.1 hs
 refine (Fd.fdown_yes w m.gf m.bf S.h3 S.fl m.ff h.fl i hi D hD).mono ?_
 rintro e w' ⟨rfl,hf,hg⟩
 obtain ⟨col',h1,h2,h3⟩:=h.flMap hg hf (fun j hj hs=>by
  unfold Fd.dropN at hs
  by_cases e:j = i
  ·simp [e] at hs
  ·right; rw [if_neg e] at hs; exact ⟨hs,rfl⟩)
 exact ⟨rfl,m,col',⟨rfl,rfl,rfl,rfl,rfl⟩,h1,h2,h3⟩
section
variable {w w':World} {m:Sm} {S:Sp} {col:Nat → Nat} {c:Nat}
theorem SpAt.state (h:SpAt w m S col c) {gp:Nat} (hP:m.P = some ⟨gp,0,none⟩) {i:Nat} (hi:i < S.ps.length) (ph lf:Int) :
  SpAt ((w.setCell ⟨gp,i * 6 + 3,none⟩ (.int .i64 ph)).setCell ⟨gp,i * 6 + 3 + 1,none⟩ (.int .i64 lf)) m { S with ps:=S.ps.set i ⟨S.ps[i].l,S.ps[i].o,S.ps[i].c,ph,lf,S.ps[i].bt⟩ } col c ∧ Ev col c w ((w.setCell ⟨gp,i * 6 + 3,none⟩ (.int .i64 ph)).setCell ⟨gp,i * 6 + 3 + 1,none⟩ (.int .i64 lf)):=by
 obtain ⟨h1,v1⟩:=h.port hP hi 3 (by omega) (.int .i64 ph) ⟨S.ps[i].l,S.ps[i].o,S.ps[i].c,ph,S.ps[i].lf,S.ps[i].bt⟩ rfl
 obtain ⟨h2,v2⟩:=h1.port hP (i:=i) (by simp only [List.length_set]; exact hi) 4 (by omega) (.int .i64 lf) ⟨S.ps[i].l,S.ps[i].o,S.ps[i].c,ph,lf,S.ps[i].bt⟩ (by simp only [List.getElem_set_self]; rfl)
 simp only [List.set_set] at h2
 exact ⟨h2,v1.tr v2⟩
end
theorem folS_at {S:Sp} {i:Nat} {ph lf:Int} (hi:i < S.ps.length):folS S i ph lf = { S with ps:=S.ps.set i (poSet S.ps[i] ph lf),fl:=if He.evt S.ps[i].ph ph = 1 then Fd.setN S.fl S.ps[i].l.toNat (Fd.offs (fun _=>none) (allN S.db)) else if He.evt S.ps[i].ph ph = 2 then Fd.dropN S.fl S.ps[i].l.toNat else S.fl }:=by
 unfold folS
 rw [List.getElem?_eq_getElem hi]
theorem evt_cases (a b:Int):He.evt a b = 0 ∨ (He.evt a b = 1 ∧ b = 2) ∨ (He.evt a b = 2 ∧ a = 2):=by
 unfold He.evt
 split
 ·split
  ·exact .inl rfl
  ·exact .inr (.inr ⟨rfl,by assumption⟩)
 ·split
  ·exact .inr (.inl ⟨rfl,by assumption⟩)
  ·exact .inl rfl
section
variable {w w':World} {m:Sm} {S:Sp} {col:Nat → Nat} {c:Nat}
set_option maxRecDepth 100000 in
set_option maxHeartbeats 6400000 in
theorem followF (w:World) (m:Sm) (S:Sp) (col:Nat → Nat) (c:Nat) (h:SpAt w m S col c) (hok:DbOk S.db) (hv:∀ a ∈ allN S.db,LaValid a) (gp:Nat) (hP:m.P = some ⟨gp,0,none⟩) (i:Nat) (hi:i < S.ps.length) (p:Po) (hp:S.ps[i] = p) (hl:0 ≤ p.l ∧ p.l < 256) (hup:p.ph = 2 → (S.fl p.l.toNat).isSome = true)
  (ph lf:Int)
  (FC:∀ W,Below w.heap.size w W → Calls Tryz.prog 64 #[.agg #[.int .i64 p.ph,.int .i64 p.lf]] W fun e w'=>e = .returned (.tuple #[.agg #[.int .i64 ph,.int .i64 lf],.int .i64 (He.evt p.ph ph),.int .i64 0]) ∧ Below W.heap.size W w') :
  Calls Tryz.prog 88 #[.pointer (some ⟨m.g,0,none⟩),.pointer (some ⟨gp,i * 6,none⟩),.func (.func 64) #[] #[]] w (ToPost w m col c (folS S i ph lf) (.int .i64 (He.evt p.ph ph))):=by
 obtain ⟨gp',hP',hpc⟩:=h.gp (by omega)
 obtain rfl:gp' = gp:=by rw [hP] at hP'; injection hP' with e; injection e with e; exact e.symm
 have hpc:=hpc i hi
 rw [hp] at hpc
 have p3:=hpc.c3
 have p4:=hpc.c4'
 have p4':=hpc.c4
 have hfo:=folS_at (ph:=ph) (lf:=lf) hi
 rw [hp] at hfo
 replace hfo:=Lib.hid hfo
 replace FC:=Lib.hid (FC w (Below.refl _ _))
 replace h:=Lib.hid h
 replace hup:=Lib.hid hup
 clear hpc hP'
 obtain ⟨ev,hev⟩:∃ ev,He.evt p.ph ph = ev:=⟨_,rfl⟩
 have hcs:=evt_cases p.ph ph
 rw [hev] at FC hfo hcs ⊢
 replace hev:=Lib.hid hev
 replace hcs:=Lib.hid hcs
 go_enter Tryz.func88,Tryz.ntmps88
 go_wp2_with fail
 (with_reducible refine (FC.out).mono ?_)
 rintro e w1 ⟨rfl,hb⟩
 clear FC p3 p4 p4'
 have hb2:=below_new' w1 (.cells #[.int .i64 ph,.int .i64 lf] 116)
 have kb:=Box.new' w1 #[.int .i64 ph,.int .i64 lf] 116 w1.heap.size _ rfl rfl
 have H1:=h.out.below hb
 have H2:=H1.below hb2
 have V2:Ev col c w (w1.alloc (.cells #[.int .i64 ph,.int .i64 lf] 116)):=(Eff.below hb).tr (Eff.below hb2)
 have hkg:gp' < w1.heap.size:=by
  have:=hb.size
  obtain ⟨g2,e2,hc2⟩:=h.out.gp (by omega)
  rw [hP] at e2
  injection e2 with e2
  injection e2 with e2
  subst e2
  have:=World.block_lt_of_cell? _ _ (hc2 i hi).c0
  simp only at this
  omega
 clear hb hb2 H1
 go_upto_region 4 with fail
 generalize hw2:World.alloc w1 _ = w2 at *
 clear hw2
 generalize w1.heap.size = kx at *
 obtain ⟨H3,V3⟩:=H2.state hP hi ph lf
 rw [hp] at H3
 have V3':=Lib.hid (V2.tr V3)
 obtain ⟨g2,e2,hc2⟩:=H2.gp (by omega)
 obtain rfl:g2 = gp':=by rw [hP] at e2; injection e2 with e; injection e with e; exact e.symm
 have hc2:=hc2 i hi
 have p3:=hc2.c3
 have p4:=hc2.c4'
 rw [hp] at p3 p4
 have f3:=H2.free hP (i * 6 + 3)
 have f4:=H2.free hP (i * 6 + 3 + 1)
 have k0:=kb.c 0 rfl
 have k1:=kb.c 1 rfl
 have kb3:=(kb.far (p:=⟨g2,i * 6 + 3,none⟩) (.int .i64 ph) (by simp only; omega)).far (p:=⟨g2,i * 6 + 3 + 1,none⟩) (.int .i64 lf) (by simp only; omega)
 have k0':=kb3.c 0 rfl
 replace H3:=Lib.hid H3
 obtain ⟨ln,hln⟩:=Int.eq_ofNat_of_zero_le hl.1
 have hln2:ln < 256:=by omega
 replace hln:=Lib.hid hln
 clear hc2 e2 V2 V3 kb3 hl H2
 go_upto_region 5 with fail
 clear p3 p4 f3 f4 k0 k1 kb
 replace k0':=k0'
 generalize hw4:World.setCell (World.setCell _ _ _) _ _ = w4 at *
 clear hw4
 go_upto_if 28 with fail
 clear k0'
 go_cut [] (fun wx=>SpAt wx m { S with ps:=S.ps.set i (poSet p ph lf) } col c ∧ Ev col c w wx)
 case first =>
  by_cases h0:ph = 0
  ·have e0:(ph == 0) = true:=by simp [h0]
   obtain ⟨H4,V4⟩:=H3.out.port hP (i:=i) (by simp only [List.length_set]; exact hi) 5 (by omega) (.int .i64 0) (poSet p ph lf) (by simp only [List.getElem_set_self]; unfold poSet; rw [if_pos h0]; rfl)
   simp only [List.set_set] at H4
   obtain ⟨g3,e3,hc3⟩:=H3.out.gp (by simp only [List.length_set]; omega)
   obtain rfl:g3 = g2:=by rw [hP] at e3; injection e3 with e; injection e with e; exact e.symm
   have c5:=(hc3 i (by simp only [List.length_set]; exact hi)).c5
   simp only [List.getElem_set_self] at c5
   have f5:=H3.out.free hP (i * 6 + 5)
   have V5:=V3'.out.tr V4
   replace h0:=Lib.hid h0
   clear hc3 e3
   go_wp2_with fail
   go_meet
   exact ⟨H4,V5⟩
  ·have e0:(ph == 0) = false:=by simp [h0]
   have H4:=H3.out
   have e1:poSet p ph lf = ⟨p.l,p.o,p.c,ph,lf,p.bt⟩:=by unfold poSet; rw [if_neg h0]
   rw [← e1] at H4
   go_wp2_with fail
   go_meet
   exact ⟨H4,V3'.out⟩
 case rest =>
  obtain ⟨H4,V4⟩:=hcut
  clear H3 V3' h
  replace H4:=Lib.hid H4
  replace V4:=Lib.hid V4
  have hcs2:ev = 0 ∨ (ev = 1 ∧ Hid (ph = 2)) ∨ (ev = 2 ∧ Hid (p.ph = 2)):=hcs.out
  clear hcs
  rcases hcs2 with rfl | ⟨rfl,hq⟩ | ⟨rfl,hq⟩
  ·have hf:ToPost w m col c (folS S i ph lf) (.int .i64 0) (.returned (.int .i64 0)) wc:=by
    rw [hfo.out]
    exact ⟨rfl,SpTo.of H4.out V4.out⟩
   clear H4 V4 hfo
   go_wp2_with fail
   go_ret
   exact hf
  ·have H5:=H4.out.below (w':=wc.drew) (Below.refl _ _).drew
   have V5:=V4.out.tr (Eff.below (E:=fun k=>col k = c) (Below.refl wc.heap.size wc).drew)
   have DA:=Lib.hid (dall_any wc.drew m.gd m.bd S.db H5.db hok)
   have hol:=orgs_len S.db
   obtain ⟨g3,e3,hc3⟩:=H5.gp (by simp only [List.length_set]; omega)
   obtain rfl:g3 = g2:=by rw [hP] at e3; injection e3 with e; injection e with e; exact e.symm
   have c0:=(hc3 i (by simp only [List.length_set]; exact hi)).c0
   simp only [List.getElem_set_self,poSet] at c0
   rw [hln.out] at c0 hfo
   have i13:=H5.cs.c13
   have i12:=H5.cs.c12
   have hfin:Hid (∀ W,SpTo wc.drew m col c { S with ps:=S.ps.set i (poSet p ph lf),fl:=Fd.setN S.fl ln (Fd.offs (fun _=>none) (allN S.db)) } W → ToPost w m col c (folS S i ph lf) (.int .i64 1) (.returned (.int .i64 1)) W):=fun W h1=>by
    rw [hfo.out]
    exact ⟨rfl,SpTo.from V5 h1⟩
   clear hc3 e3 V4 V5 H4
   go_upto_region 9 with fail
   refine wp_region_noPanic ?_
   refine wp_region_held_drew (S:=fun W=>W.cell? ⟨m.g,13,none⟩ = some (.pointer (some ⟨m.gf,0,none⟩)) ∧ W.cell? ⟨m.g,12,none⟩ = some (.pointer (some ⟨m.gd,0,none⟩)) ∧ W.cell? ⟨g3,i * 6,none⟩ = some (.int .i64 (ln:Int))) (by kernel_rfl) ⟨i13,i12,c0⟩ (fun hHeld=>?_)
   refine take_first (i:=0) (v:=?_) (some 35) rfl rfl (by kernel_rfl) (by kernel_rfl) (by kernel_rfl) (fun _ _ _ h=>h) (Or.inl ⟨by rfl,?_⟩) (by assumption) ?_
   rotate_left
   ·intro w hSw; (try dsimp only at hSw); go_simp; (try with_reducible rfl)
   try simp only [Act.put,List.setIfInBounds_toArray,List.set_cons_succ,List.set_cons_zero]
   refine take_first (i:=1) (v:=?_) (some 36) rfl rfl (by kernel_rfl) (by kernel_rfl) (by kernel_rfl) (fun _ _ _ h=>h) (Or.inl ⟨by rfl,?_⟩) (by assumption) ?_
   rotate_left
   ·intro w hSw; (try dsimp only at hSw); go_simp; (try with_reducible rfl)
   try simp only [Act.put,List.setIfInBounds_toArray,List.set_cons_succ,List.set_cons_zero]
   refine take_first (i:=2) (v:=?_) (some 37) rfl rfl (by kernel_rfl) (by kernel_rfl) (by kernel_rfl) (fun _ _ _ h=>h) (Or.inl ⟨by rfl,?_⟩) (by assumption) ?_
   rotate_left
   ·intro w hSw; (try dsimp only at hSw); go_simp; (try with_reducible rfl)
   try simp only [Act.put,List.setIfInBounds_toArray,List.set_cons_succ,List.set_cons_zero]
   refine take_first (i:=3) (v:=?_) (some 38) rfl rfl (by kernel_rfl) (by kernel_rfl) (by kernel_rfl) (fun _ _ _ h=>h) (Or.inl ⟨by rfl,?_⟩) (by assumption) ?_
   rotate_left
   ·intro w hSw; (try dsimp only at hSw); go_simp; (try with_reducible rfl)
   try simp only [Act.put,List.setIfInBounds_toArray,List.set_cons_succ,List.set_cons_zero]
   refine take_first (i:=4) (v:=?_) (some 39) rfl rfl (by kernel_rfl) (by kernel_rfl) (by kernel_rfl) (fun _ _ _ h=>h) (Or.inl ⟨by rfl,?_⟩) (by assumption) ?_
   rotate_left
   ·intro w hSw; (try dsimp only at hSw); go_simp; (try with_reducible rfl)
   try simp only [Act.put,List.setIfInBounds_toArray,List.set_cons_succ,List.set_cons_zero]
   refine take_first (i:=5) (v:=?_) (some 40) rfl rfl (by kernel_rfl) (by kernel_rfl) (by kernel_rfl) (fun _ _ _ h=>h) (Or.inl ⟨by rfl,?_⟩) (by assumption) ?_
   rotate_left
   ·intro w hSw; (try dsimp only at hSw); go_simp; (try with_reducible rfl)
   try simp only [Act.put,List.setIfInBounds_toArray,List.set_cons_succ,List.set_cons_zero]
   refine take_first (i:=6) (v:=?_) (some 41) rfl rfl (by kernel_rfl) (by kernel_rfl) (by kernel_rfl) (fun _ _ _ h=>h) (Or.inl ⟨by rfl,?_⟩) (by assumption) ?_
   rotate_left
   ·intro w hSw; (try dsimp only at hSw); go_simp; (try with_reducible rfl)
   try simp only [Act.put,List.setIfInBounds_toArray,List.set_cons_succ,List.set_cons_zero]
   refine take_first (i:=7) (v:=?_) (some 42) rfl rfl (by kernel_rfl) (by kernel_rfl) (by kernel_rfl) (fun _ _ _ h=>h) (Or.inl ⟨by rfl,?_⟩) (by assumption) ?_
   rotate_left
   ·intro w hSw; (try dsimp only at hSw); go_simp; (try with_reducible rfl)
   try simp only [Act.put,List.setIfInBounds_toArray,List.set_cons_succ,List.set_cons_zero]
   refine take_first (i:=8) (v:=?_) (some 43) rfl rfl (by kernel_rfl) (by kernel_rfl) (by kernel_rfl) (fun _ _ _ h=>h) (Or.inl ⟨by rfl,?_⟩) (by assumption) ?_
   rotate_left
   ·intro w hSw; (try dsimp only at hSw); go_simp; (try with_reducible rfl)
   try simp only [Act.put,List.setIfInBounds_toArray,List.set_cons_succ,List.set_cons_zero]
   refine take_first (i:=9) (v:=?_) (some 44) rfl rfl (by kernel_rfl) (by kernel_rfl) (by kernel_rfl) (fun _ _ _ h=>h) (Or.inl ⟨by rfl,?_⟩) (by assumption) ?_
   rotate_left
   ·intro w hSw; (try dsimp only at hSw); go_simp; (try with_reducible rfl)
   try simp only [Act.put,List.setIfInBounds_toArray,List.set_cons_succ,List.set_cons_zero]
   refine take_first (i:=10) (v:=?_) (some 45) rfl rfl (by kernel_rfl) (by kernel_rfl) (by kernel_rfl) (fun _ _ _ h=>h) (Or.inl ⟨by rfl,?_⟩) (by assumption) ?_
   rotate_left
   ·intro w hSw; (try dsimp only at hSw); go_simp; (try with_reducible rfl)
   try simp only [Act.put,List.setIfInBounds_toArray,List.set_cons_succ,List.set_cons_zero]
   refine take_first (i:=11) (v:=?_) (some 46) rfl rfl (by kernel_rfl) (by kernel_rfl) (by kernel_rfl) (fun _ _ _ h=>h) (Or.inl ⟨by rfl,?_⟩) (by assumption) ?_
   rotate_left
   ·intro w hSw; (try dsimp only at hSw); go_simp; (try with_reducible rfl)
   try simp only [Act.put,List.setIfInBounds_toArray,List.set_cons_succ,List.set_cons_zero]
   refine wpAnyH_ready (rs:=[12]) (by kernel_rfl) (by simp) ?_
   refine AllReadyH.cons rfl (fun K hK=>?_) AllReadyH.nil
   go_simp
   (with_reducible refine (DA.out).mono ?_)
   rintro e wa ⟨A,d,ls,rfl,own,hla,hlo,hb⟩
   dsimp only
   have H6:=H5.below hb
   refine hK.out _ _ ⟨H6.cs.c13,H6.cs.c12,cell_later hb c0⟩ (fun hHeld=>?_)
   clear hK K
   have hll:ls.length = (orgs S.db).length:=by
    have:=congrArg List.length hla
    simpa [laL,allN] using this
   have UP:=Lib.hid (sup_any wa m _ col c H6 hok ln hln2 A (orgs S.db).length d ls (own_slice own) hll hol hla (fun s hs=>(hlo s hs).ok) hv)
   refine wpAnyH_ready (rs:=[13]) (by kernel_rfl) (by simp) ?_
   refine AllReadyH.cons rfl (fun K hK=>?_) AllReadyH.nil
   go_simp
   (with_reducible refine (UP.out).mono ?_)
   rintro e wb ⟨rfl,h7⟩
   dsimp only
   have hf:=hfin.out wb (SpTo.from (Eff.below hb) h7)
   obtain ⟨m',col',eq,hcc,H7,V7⟩:=h7
   have c0':wb.cell? ⟨g3,i * 6,none⟩ = some (.int .i64 (ln:Int)):=by
    obtain ⟨g4,e4,hc4⟩:=H7.gp (by simp only [List.length_set]; omega)
    rw [eq.2.1,hP] at e4
    injection e4 with e4
    injection e4 with e4
    subst e4
    have:=(hc4 i (by simp only [List.length_set]; exact hi)).c0
    simp only [List.getElem_set_self,poSet] at this
    rw [hln.out] at this
    exact this
   have j13:=H7.cs.c13
   have j12:=H7.cs.c12
   rw [eq.1,eq.2.2.2.1] at j13
   rw [eq.1,eq.2.2.1] at j12
   refine hK.out _ _ ⟨j13,j12,c0'⟩ (fun hHeld=>?_)
   clear hK K j13 j12 c0' H7 V7 hcc eq H6 H5 UP DA own hla hlo hHeld c0 i12 i13 hfin
   refine wpAnyH_done (by kernel_rfl) ?_ _
   refine NoPanic.normal ?_
   go_wp2_with fail
   go_ret
   exact hf
  ·have H5:=H4.out.below (w':=wc.drew) (Below.refl _ _).drew
   have V5:=V4.out.tr (Eff.below (E:=fun k=>col k = c) (Below.refl wc.heap.size wc).drew)
   have hup2:=hup.out hq.out
   obtain ⟨g3,e3,hc3⟩:=H5.gp (by simp only [List.length_set]; omega)
   obtain rfl:g3 = g2:=by rw [hP] at e3; injection e3 with e; injection e with e; exact e.symm
   have c0:=(hc3 i (by simp only [List.length_set]; exact hi)).c0
   simp only [List.getElem_set_self,poSet] at c0
   rw [hln.out] at c0 hfo hup2
   have hup3:(S.fl ln).isSome = true:=hup2
   have i13:=H5.cs.c13
   have hfin:Hid (∀ W,SpTo wc.drew m col c { S with ps:=S.ps.set i (poSet p ph lf),fl:=Fd.dropN S.fl ln } W → ToPost w m col c (folS S i ph lf) (.int .i64 2) (.returned (.int .i64 2)) W):=fun W h1=>by
    rw [hfo.out]
    exact ⟨rfl,SpTo.from V5 h1⟩
   have DN:=Lib.hid (sdown_any wc.drew m _ col c H5 ln hln2 hup3)
   clear hc3 e3 V5 H4
   go_upto_region 11 with fail
   refine wp_region_noPanic ?_
   refine wp_region_held_drew (S:=fun W=>W.cell? ⟨m.g,13,none⟩ = some (.pointer (some ⟨m.gf,0,none⟩)) ∧ W.cell? ⟨g3,i * 6,none⟩ = some (.int .i64 (ln:Int))) (by kernel_rfl) ⟨i13,c0⟩ (fun hHeld=>?_)
   refine take_first (i:=0) (v:=?_) (some 51) rfl rfl (by kernel_rfl) (by kernel_rfl) (by kernel_rfl) (fun _ _ _ h=>h) (Or.inl ⟨by rfl,?_⟩) (by assumption) ?_
   rotate_left
   ·intro w hSw; (try dsimp only at hSw); go_simp; (try with_reducible rfl)
   try simp only [Act.put,List.setIfInBounds_toArray,List.set_cons_succ,List.set_cons_zero]
   refine take_first (i:=1) (v:=?_) (some 52) rfl rfl (by kernel_rfl) (by kernel_rfl) (by kernel_rfl) (fun _ _ _ h=>h) (Or.inl ⟨by rfl,?_⟩) (by assumption) ?_
   rotate_left
   ·intro w hSw; (try dsimp only at hSw); go_simp; (try with_reducible rfl)
   try simp only [Act.put,List.setIfInBounds_toArray,List.set_cons_succ,List.set_cons_zero]
   refine take_first (i:=2) (v:=?_) (some 53) rfl rfl (by kernel_rfl) (by kernel_rfl) (by kernel_rfl) (fun _ _ _ h=>h) (Or.inl ⟨by rfl,?_⟩) (by assumption) ?_
   rotate_left
   ·intro w hSw; (try dsimp only at hSw); go_simp; (try with_reducible rfl)
   try simp only [Act.put,List.setIfInBounds_toArray,List.set_cons_succ,List.set_cons_zero]
   refine take_first (i:=3) (v:=?_) (some 54) rfl rfl (by kernel_rfl) (by kernel_rfl) (by kernel_rfl) (fun _ _ _ h=>h) (Or.inl ⟨by rfl,?_⟩) (by assumption) ?_
   rotate_left
   ·intro w hSw; (try dsimp only at hSw); go_simp; (try with_reducible rfl)
   try simp only [Act.put,List.setIfInBounds_toArray,List.set_cons_succ,List.set_cons_zero]
   refine take_first (i:=4) (v:=?_) (some 55) rfl rfl (by kernel_rfl) (by kernel_rfl) (by kernel_rfl) (fun _ _ _ h=>h) (Or.inl ⟨by rfl,?_⟩) (by assumption) ?_
   rotate_left
   ·intro w hSw; (try dsimp only at hSw); go_simp; (try with_reducible rfl)
   try simp only [Act.put,List.setIfInBounds_toArray,List.set_cons_succ,List.set_cons_zero]
   refine take_first (i:=5) (v:=?_) (some 56) rfl rfl (by kernel_rfl) (by kernel_rfl) (by kernel_rfl) (fun _ _ _ h=>h) (Or.inl ⟨by rfl,?_⟩) (by assumption) ?_
   rotate_left
   ·intro w hSw; (try dsimp only at hSw); go_simp; (try with_reducible rfl)
   try simp only [Act.put,List.setIfInBounds_toArray,List.set_cons_succ,List.set_cons_zero]
   refine take_first (i:=6) (v:=?_) (some 57) rfl rfl (by kernel_rfl) (by kernel_rfl) (by kernel_rfl) (fun _ _ _ h=>h) (Or.inl ⟨by rfl,?_⟩) (by assumption) ?_
   rotate_left
   ·intro w hSw; (try dsimp only at hSw); go_simp; (try with_reducible rfl)
   try simp only [Act.put,List.setIfInBounds_toArray,List.set_cons_succ,List.set_cons_zero]
   refine take_first (i:=7) (v:=?_) (some 58) rfl rfl (by kernel_rfl) (by kernel_rfl) (by kernel_rfl) (fun _ _ _ h=>h) (Or.inl ⟨by rfl,?_⟩) (by assumption) ?_
   rotate_left
   ·intro w hSw; (try dsimp only at hSw); go_simp; (try with_reducible rfl)
   try simp only [Act.put,List.setIfInBounds_toArray,List.set_cons_succ,List.set_cons_zero]
   refine wpAnyH_ready (rs:=[8]) (by kernel_rfl) (by simp) ?_
   refine AllReadyH.cons rfl (fun K hK=>?_) AllReadyH.nil
   go_simp
   (with_reducible refine (DN.out).mono ?_)
   rintro e wb ⟨rfl,h7⟩
   dsimp only
   have hf:=hfin.out wb h7
   obtain ⟨m',col',eq,hcc,H7,V7⟩:=h7
   have c0':wb.cell? ⟨g3,i * 6,none⟩ = some (.int .i64 (ln:Int)):=by
    obtain ⟨g4,e4,hc4⟩:=H7.gp (by simp only [List.length_set]; omega)
    rw [eq.2.1,hP] at e4
    injection e4 with e4
    injection e4 with e4
    subst e4
    have:=(hc4 i (by simp only [List.length_set]; exact hi)).c0
    simp only [List.getElem_set_self,poSet] at this
    rw [hln.out] at this
    exact this
   have j13:=H7.cs.c13
   rw [eq.1,eq.2.2.2.1] at j13
   refine hK.out _ _ ⟨j13,c0'⟩ (fun hHeld=>?_)
   clear hK K j13 c0' H7 V7 hcc eq H5 DN hHeld c0 i13 hfin hup2 hup3
   refine wpAnyH_done (by kernel_rfl) ?_ _
   refine NoPanic.normal ?_
   go_wp2_with fail
   go_ret
   exact hf
set_option maxRecDepth 100000 in
set_option maxHeartbeats 6400000 in
theorem followT (w:World) (m:Sm) (S:Sp) (col:Nat → Nat) (c:Nat) (h:SpAt w m S col c) (hok:DbOk S.db) (hv:∀ a ∈ allN S.db,LaValid a) (gp:Nat) (hP:m.P = some ⟨gp,0,none⟩) (i:Nat) (hi:i < S.ps.length) (p:Po) (hp:S.ps[i] = p) (hl:0 ≤ p.l ∧ p.l < 256) (hup:p.ph = 2 → (S.fl p.l.toNat).isSome = true)
  (ph lf:Int)
  (FC:∀ W,Below w.heap.size w W → Calls Tryz.prog 89 #[.agg #[.int .i64 p.ph,.int .i64 p.lf]] W fun e w'=>e = .returned (.tuple #[.agg #[.int .i64 ph,.int .i64 lf],.int .i64 (He.evt p.ph ph),.int .i64 0]) ∧ Below W.heap.size W w') :
  Calls Tryz.prog 88 #[.pointer (some ⟨m.g,0,none⟩),.pointer (some ⟨gp,i * 6,none⟩),.func (.func 89) #[] #[]] w (ToPost w m col c (folS S i ph lf) (.int .i64 (He.evt p.ph ph))):=by
 obtain ⟨gp',hP',hpc⟩:=h.gp (by omega)
 obtain rfl:gp' = gp:=by rw [hP] at hP'; injection hP' with e; injection e with e; exact e.symm
 have hpc:=hpc i hi
 rw [hp] at hpc
 have p3:=hpc.c3
 have p4:=hpc.c4'
 have p4':=hpc.c4
 have hfo:=folS_at (ph:=ph) (lf:=lf) hi
 rw [hp] at hfo
 replace hfo:=Lib.hid hfo
 replace FC:=Lib.hid (FC w (Below.refl _ _))
 replace h:=Lib.hid h
 replace hup:=Lib.hid hup
 clear hpc hP'
 obtain ⟨ev,hev⟩:∃ ev,He.evt p.ph ph = ev:=⟨_,rfl⟩
 have hcs:=evt_cases p.ph ph
 rw [hev] at FC hfo hcs ⊢
 replace hev:=Lib.hid hev
 replace hcs:=Lib.hid hcs
 go_enter Tryz.func88,Tryz.ntmps88
 go_wp2_with fail
 (with_reducible refine (FC.out).mono ?_)
 rintro e w1 ⟨rfl,hb⟩
 clear FC p3 p4 p4'
 have hb2:=below_new' w1 (.cells #[.int .i64 ph,.int .i64 lf] 116)
 have kb:=Box.new' w1 #[.int .i64 ph,.int .i64 lf] 116 w1.heap.size _ rfl rfl
 have H1:=h.out.below hb
 have H2:=H1.below hb2
 have V2:Ev col c w (w1.alloc (.cells #[.int .i64 ph,.int .i64 lf] 116)):=(Eff.below hb).tr (Eff.below hb2)
 have hkg:gp' < w1.heap.size:=by
  have:=hb.size
  obtain ⟨g2,e2,hc2⟩:=h.out.gp (by omega)
  rw [hP] at e2
  injection e2 with e2
  injection e2 with e2
  subst e2
  have:=World.block_lt_of_cell? _ _ (hc2 i hi).c0
  simp only at this
  omega
 clear hb hb2 H1
 go_upto_region 4 with fail
 generalize hw2:World.alloc w1 _ = w2 at *
 clear hw2
 generalize w1.heap.size = kx at *
 obtain ⟨H3,V3⟩:=H2.state hP hi ph lf
 rw [hp] at H3
 have V3':=Lib.hid (V2.tr V3)
 obtain ⟨g2,e2,hc2⟩:=H2.gp (by omega)
 obtain rfl:g2 = gp':=by rw [hP] at e2; injection e2 with e; injection e with e; exact e.symm
 have hc2:=hc2 i hi
 have p3:=hc2.c3
 have p4:=hc2.c4'
 rw [hp] at p3 p4
 have f3:=H2.free hP (i * 6 + 3)
 have f4:=H2.free hP (i * 6 + 3 + 1)
 have k0:=kb.c 0 rfl
 have k1:=kb.c 1 rfl
 have kb3:=(kb.far (p:=⟨g2,i * 6 + 3,none⟩) (.int .i64 ph) (by simp only; omega)).far (p:=⟨g2,i * 6 + 3 + 1,none⟩) (.int .i64 lf) (by simp only; omega)
 have k0':=kb3.c 0 rfl
 replace H3:=Lib.hid H3
 obtain ⟨ln,hln⟩:=Int.eq_ofNat_of_zero_le hl.1
 have hln2:ln < 256:=by omega
 replace hln:=Lib.hid hln
 clear hc2 e2 V2 V3 kb3 hl H2
 go_upto_region 5 with fail
 clear p3 p4 f3 f4 k0 k1 kb
 replace k0':=k0'
 generalize hw4:World.setCell (World.setCell _ _ _) _ _ = w4 at *
 clear hw4
 go_upto_if 28 with fail
 clear k0'
 go_cut [] (fun wx=>SpAt wx m { S with ps:=S.ps.set i (poSet p ph lf) } col c ∧ Ev col c w wx)
 case first =>
  by_cases h0:ph = 0
  ·have e0:(ph == 0) = true:=by simp [h0]
   obtain ⟨H4,V4⟩:=H3.out.port hP (i:=i) (by simp only [List.length_set]; exact hi) 5 (by omega) (.int .i64 0) (poSet p ph lf) (by simp only [List.getElem_set_self]; unfold poSet; rw [if_pos h0]; rfl)
   simp only [List.set_set] at H4
   obtain ⟨g3,e3,hc3⟩:=H3.out.gp (by simp only [List.length_set]; omega)
   obtain rfl:g3 = g2:=by rw [hP] at e3; injection e3 with e; injection e with e; exact e.symm
   have c5:=(hc3 i (by simp only [List.length_set]; exact hi)).c5
   simp only [List.getElem_set_self] at c5
   have f5:=H3.out.free hP (i * 6 + 5)
   have V5:=V3'.out.tr V4
   replace h0:=Lib.hid h0
   clear hc3 e3
   go_wp2_with fail
   go_meet
   exact ⟨H4,V5⟩
  ·have e0:(ph == 0) = false:=by simp [h0]
   have H4:=H3.out
   have e1:poSet p ph lf = ⟨p.l,p.o,p.c,ph,lf,p.bt⟩:=by unfold poSet; rw [if_neg h0]
   rw [← e1] at H4
   go_wp2_with fail
   go_meet
   exact ⟨H4,V3'.out⟩
 case rest =>
  obtain ⟨H4,V4⟩:=hcut
  clear H3 V3' h
  replace H4:=Lib.hid H4
  replace V4:=Lib.hid V4
  have hcs2:ev = 0 ∨ (ev = 1 ∧ Hid (ph = 2)) ∨ (ev = 2 ∧ Hid (p.ph = 2)):=hcs.out
  clear hcs
  rcases hcs2 with rfl | ⟨rfl,hq⟩ | ⟨rfl,hq⟩
  ·have hf:ToPost w m col c (folS S i ph lf) (.int .i64 0) (.returned (.int .i64 0)) wc:=by
    rw [hfo.out]
    exact ⟨rfl,SpTo.of H4.out V4.out⟩
   clear H4 V4 hfo
   go_wp2_with fail
   go_ret
   exact hf
  ·have H5:=H4.out.below (w':=wc.drew) (Below.refl _ _).drew
   have V5:=V4.out.tr (Eff.below (E:=fun k=>col k = c) (Below.refl wc.heap.size wc).drew)
   have DA:=Lib.hid (dall_any wc.drew m.gd m.bd S.db H5.db hok)
   have hol:=orgs_len S.db
   obtain ⟨g3,e3,hc3⟩:=H5.gp (by simp only [List.length_set]; omega)
   obtain rfl:g3 = g2:=by rw [hP] at e3; injection e3 with e; injection e with e; exact e.symm
   have c0:=(hc3 i (by simp only [List.length_set]; exact hi)).c0
   simp only [List.getElem_set_self,poSet] at c0
   rw [hln.out] at c0 hfo
   have i13:=H5.cs.c13
   have i12:=H5.cs.c12
   have hfin:Hid (∀ W,SpTo wc.drew m col c { S with ps:=S.ps.set i (poSet p ph lf),fl:=Fd.setN S.fl ln (Fd.offs (fun _=>none) (allN S.db)) } W → ToPost w m col c (folS S i ph lf) (.int .i64 1) (.returned (.int .i64 1)) W):=fun W h1=>by
    rw [hfo.out]
    exact ⟨rfl,SpTo.from V5 h1⟩
   clear hc3 e3 V4 V5 H4
   go_upto_region 9 with fail
   refine wp_region_noPanic ?_
   refine wp_region_held_drew (S:=fun W=>W.cell? ⟨m.g,13,none⟩ = some (.pointer (some ⟨m.gf,0,none⟩)) ∧ W.cell? ⟨m.g,12,none⟩ = some (.pointer (some ⟨m.gd,0,none⟩)) ∧ W.cell? ⟨g3,i * 6,none⟩ = some (.int .i64 (ln:Int))) (by kernel_rfl) ⟨i13,i12,c0⟩ (fun hHeld=>?_)
   refine take_first (i:=0) (v:=?_) (some 35) rfl rfl (by kernel_rfl) (by kernel_rfl) (by kernel_rfl) (fun _ _ _ h=>h) (Or.inl ⟨by rfl,?_⟩) (by assumption) ?_
   rotate_left
   ·intro w hSw; (try dsimp only at hSw); go_simp; (try with_reducible rfl)
   try simp only [Act.put,List.setIfInBounds_toArray,List.set_cons_succ,List.set_cons_zero]
   refine take_first (i:=1) (v:=?_) (some 36) rfl rfl (by kernel_rfl) (by kernel_rfl) (by kernel_rfl) (fun _ _ _ h=>h) (Or.inl ⟨by rfl,?_⟩) (by assumption) ?_
   rotate_left
   ·intro w hSw; (try dsimp only at hSw); go_simp; (try with_reducible rfl)
   try simp only [Act.put,List.setIfInBounds_toArray,List.set_cons_succ,List.set_cons_zero]
   refine take_first (i:=2) (v:=?_) (some 37) rfl rfl (by kernel_rfl) (by kernel_rfl) (by kernel_rfl) (fun _ _ _ h=>h) (Or.inl ⟨by rfl,?_⟩) (by assumption) ?_
   rotate_left
   ·intro w hSw; (try dsimp only at hSw); go_simp; (try with_reducible rfl)
   try simp only [Act.put,List.setIfInBounds_toArray,List.set_cons_succ,List.set_cons_zero]
   refine take_first (i:=3) (v:=?_) (some 38) rfl rfl (by kernel_rfl) (by kernel_rfl) (by kernel_rfl) (fun _ _ _ h=>h) (Or.inl ⟨by rfl,?_⟩) (by assumption) ?_
   rotate_left
   ·intro w hSw; (try dsimp only at hSw); go_simp; (try with_reducible rfl)
   try simp only [Act.put,List.setIfInBounds_toArray,List.set_cons_succ,List.set_cons_zero]
   refine take_first (i:=4) (v:=?_) (some 39) rfl rfl (by kernel_rfl) (by kernel_rfl) (by kernel_rfl) (fun _ _ _ h=>h) (Or.inl ⟨by rfl,?_⟩) (by assumption) ?_
   rotate_left
   ·intro w hSw; (try dsimp only at hSw); go_simp; (try with_reducible rfl)
   try simp only [Act.put,List.setIfInBounds_toArray,List.set_cons_succ,List.set_cons_zero]
   refine take_first (i:=5) (v:=?_) (some 40) rfl rfl (by kernel_rfl) (by kernel_rfl) (by kernel_rfl) (fun _ _ _ h=>h) (Or.inl ⟨by rfl,?_⟩) (by assumption) ?_
   rotate_left
   ·intro w hSw; (try dsimp only at hSw); go_simp; (try with_reducible rfl)
   try simp only [Act.put,List.setIfInBounds_toArray,List.set_cons_succ,List.set_cons_zero]
   refine take_first (i:=6) (v:=?_) (some 41) rfl rfl (by kernel_rfl) (by kernel_rfl) (by kernel_rfl) (fun _ _ _ h=>h) (Or.inl ⟨by rfl,?_⟩) (by assumption) ?_
   rotate_left
   ·intro w hSw; (try dsimp only at hSw); go_simp; (try with_reducible rfl)
   try simp only [Act.put,List.setIfInBounds_toArray,List.set_cons_succ,List.set_cons_zero]
   refine take_first (i:=7) (v:=?_) (some 42) rfl rfl (by kernel_rfl) (by kernel_rfl) (by kernel_rfl) (fun _ _ _ h=>h) (Or.inl ⟨by rfl,?_⟩) (by assumption) ?_
   rotate_left
   ·intro w hSw; (try dsimp only at hSw); go_simp; (try with_reducible rfl)
   try simp only [Act.put,List.setIfInBounds_toArray,List.set_cons_succ,List.set_cons_zero]
   refine take_first (i:=8) (v:=?_) (some 43) rfl rfl (by kernel_rfl) (by kernel_rfl) (by kernel_rfl) (fun _ _ _ h=>h) (Or.inl ⟨by rfl,?_⟩) (by assumption) ?_
   rotate_left
   ·intro w hSw; (try dsimp only at hSw); go_simp; (try with_reducible rfl)
   try simp only [Act.put,List.setIfInBounds_toArray,List.set_cons_succ,List.set_cons_zero]
   refine take_first (i:=9) (v:=?_) (some 44) rfl rfl (by kernel_rfl) (by kernel_rfl) (by kernel_rfl) (fun _ _ _ h=>h) (Or.inl ⟨by rfl,?_⟩) (by assumption) ?_
   rotate_left
   ·intro w hSw; (try dsimp only at hSw); go_simp; (try with_reducible rfl)
   try simp only [Act.put,List.setIfInBounds_toArray,List.set_cons_succ,List.set_cons_zero]
   refine take_first (i:=10) (v:=?_) (some 45) rfl rfl (by kernel_rfl) (by kernel_rfl) (by kernel_rfl) (fun _ _ _ h=>h) (Or.inl ⟨by rfl,?_⟩) (by assumption) ?_
   rotate_left
   ·intro w hSw; (try dsimp only at hSw); go_simp; (try with_reducible rfl)
   try simp only [Act.put,List.setIfInBounds_toArray,List.set_cons_succ,List.set_cons_zero]
   refine take_first (i:=11) (v:=?_) (some 46) rfl rfl (by kernel_rfl) (by kernel_rfl) (by kernel_rfl) (fun _ _ _ h=>h) (Or.inl ⟨by rfl,?_⟩) (by assumption) ?_
   rotate_left
   ·intro w hSw; (try dsimp only at hSw); go_simp; (try with_reducible rfl)
   try simp only [Act.put,List.setIfInBounds_toArray,List.set_cons_succ,List.set_cons_zero]
   refine wpAnyH_ready (rs:=[12]) (by kernel_rfl) (by simp) ?_
   refine AllReadyH.cons rfl (fun K hK=>?_) AllReadyH.nil
   go_simp
   (with_reducible refine (DA.out).mono ?_)
   rintro e wa ⟨A,d,ls,rfl,own,hla,hlo,hb⟩
   dsimp only
   have H6:=H5.below hb
   refine hK.out _ _ ⟨H6.cs.c13,H6.cs.c12,cell_later hb c0⟩ (fun hHeld=>?_)
   clear hK K
   have hll:ls.length = (orgs S.db).length:=by
    have:=congrArg List.length hla
    simpa [laL,allN] using this
   have UP:=Lib.hid (sup_any wa m _ col c H6 hok ln hln2 A (orgs S.db).length d ls (own_slice own) hll hol hla (fun s hs=>(hlo s hs).ok) hv)
   refine wpAnyH_ready (rs:=[13]) (by kernel_rfl) (by simp) ?_
   refine AllReadyH.cons rfl (fun K hK=>?_) AllReadyH.nil
   go_simp
   (with_reducible refine (UP.out).mono ?_)
   rintro e wb ⟨rfl,h7⟩
   dsimp only
   have hf:=hfin.out wb (SpTo.from (Eff.below hb) h7)
   obtain ⟨m',col',eq,hcc,H7,V7⟩:=h7
   have c0':wb.cell? ⟨g3,i * 6,none⟩ = some (.int .i64 (ln:Int)):=by
    obtain ⟨g4,e4,hc4⟩:=H7.gp (by simp only [List.length_set]; omega)
    rw [eq.2.1,hP] at e4
    injection e4 with e4
    injection e4 with e4
    subst e4
    have:=(hc4 i (by simp only [List.length_set]; exact hi)).c0
    simp only [List.getElem_set_self,poSet] at this
    rw [hln.out] at this
    exact this
   have j13:=H7.cs.c13
   have j12:=H7.cs.c12
   rw [eq.1,eq.2.2.2.1] at j13
   rw [eq.1,eq.2.2.1] at j12
   refine hK.out _ _ ⟨j13,j12,c0'⟩ (fun hHeld=>?_)
   clear hK K j13 j12 c0' H7 V7 hcc eq H6 H5 UP DA own hla hlo hHeld c0 i12 i13 hfin
   refine wpAnyH_done (by kernel_rfl) ?_ _
   refine NoPanic.normal ?_
   go_wp2_with fail
   go_ret
   exact hf
  ·have H5:=H4.out.below (w':=wc.drew) (Below.refl _ _).drew
   have V5:=V4.out.tr (Eff.below (E:=fun k=>col k = c) (Below.refl wc.heap.size wc).drew)
   have hup2:=hup.out hq.out
   obtain ⟨g3,e3,hc3⟩:=H5.gp (by simp only [List.length_set]; omega)
   obtain rfl:g3 = g2:=by rw [hP] at e3; injection e3 with e; injection e with e; exact e.symm
   have c0:=(hc3 i (by simp only [List.length_set]; exact hi)).c0
   simp only [List.getElem_set_self,poSet] at c0
   rw [hln.out] at c0 hfo hup2
   have hup3:(S.fl ln).isSome = true:=hup2
   have i13:=H5.cs.c13
   have hfin:Hid (∀ W,SpTo wc.drew m col c { S with ps:=S.ps.set i (poSet p ph lf),fl:=Fd.dropN S.fl ln } W → ToPost w m col c (folS S i ph lf) (.int .i64 2) (.returned (.int .i64 2)) W):=fun W h1=>by
    rw [hfo.out]
    exact ⟨rfl,SpTo.from V5 h1⟩
   have DN:=Lib.hid (sdown_any wc.drew m _ col c H5 ln hln2 hup3)
   clear hc3 e3 V5 H4
   go_upto_region 11 with fail
   refine wp_region_noPanic ?_
   refine wp_region_held_drew (S:=fun W=>W.cell? ⟨m.g,13,none⟩ = some (.pointer (some ⟨m.gf,0,none⟩)) ∧ W.cell? ⟨g3,i * 6,none⟩ = some (.int .i64 (ln:Int))) (by kernel_rfl) ⟨i13,c0⟩ (fun hHeld=>?_)
   refine take_first (i:=0) (v:=?_) (some 51) rfl rfl (by kernel_rfl) (by kernel_rfl) (by kernel_rfl) (fun _ _ _ h=>h) (Or.inl ⟨by rfl,?_⟩) (by assumption) ?_
   rotate_left
   ·intro w hSw; (try dsimp only at hSw); go_simp; (try with_reducible rfl)
   try simp only [Act.put,List.setIfInBounds_toArray,List.set_cons_succ,List.set_cons_zero]
   refine take_first (i:=1) (v:=?_) (some 52) rfl rfl (by kernel_rfl) (by kernel_rfl) (by kernel_rfl) (fun _ _ _ h=>h) (Or.inl ⟨by rfl,?_⟩) (by assumption) ?_
   rotate_left
   ·intro w hSw; (try dsimp only at hSw); go_simp; (try with_reducible rfl)
   try simp only [Act.put,List.setIfInBounds_toArray,List.set_cons_succ,List.set_cons_zero]
   refine take_first (i:=2) (v:=?_) (some 53) rfl rfl (by kernel_rfl) (by kernel_rfl) (by kernel_rfl) (fun _ _ _ h=>h) (Or.inl ⟨by rfl,?_⟩) (by assumption) ?_
   rotate_left
   ·intro w hSw; (try dsimp only at hSw); go_simp; (try with_reducible rfl)
   try simp only [Act.put,List.setIfInBounds_toArray,List.set_cons_succ,List.set_cons_zero]
   refine take_first (i:=3) (v:=?_) (some 54) rfl rfl (by kernel_rfl) (by kernel_rfl) (by kernel_rfl) (fun _ _ _ h=>h) (Or.inl ⟨by rfl,?_⟩) (by assumption) ?_
   rotate_left
   ·intro w hSw; (try dsimp only at hSw); go_simp; (try with_reducible rfl)
   try simp only [Act.put,List.setIfInBounds_toArray,List.set_cons_succ,List.set_cons_zero]
   refine take_first (i:=4) (v:=?_) (some 55) rfl rfl (by kernel_rfl) (by kernel_rfl) (by kernel_rfl) (fun _ _ _ h=>h) (Or.inl ⟨by rfl,?_⟩) (by assumption) ?_
   rotate_left
   ·intro w hSw; (try dsimp only at hSw); go_simp; (try with_reducible rfl)
   try simp only [Act.put,List.setIfInBounds_toArray,List.set_cons_succ,List.set_cons_zero]
   refine take_first (i:=5) (v:=?_) (some 56) rfl rfl (by kernel_rfl) (by kernel_rfl) (by kernel_rfl) (fun _ _ _ h=>h) (Or.inl ⟨by rfl,?_⟩) (by assumption) ?_
   rotate_left
   ·intro w hSw; (try dsimp only at hSw); go_simp; (try with_reducible rfl)
   try simp only [Act.put,List.setIfInBounds_toArray,List.set_cons_succ,List.set_cons_zero]
   refine take_first (i:=6) (v:=?_) (some 57) rfl rfl (by kernel_rfl) (by kernel_rfl) (by kernel_rfl) (fun _ _ _ h=>h) (Or.inl ⟨by rfl,?_⟩) (by assumption) ?_
   rotate_left
   ·intro w hSw; (try dsimp only at hSw); go_simp; (try with_reducible rfl)
   try simp only [Act.put,List.setIfInBounds_toArray,List.set_cons_succ,List.set_cons_zero]
   refine take_first (i:=7) (v:=?_) (some 58) rfl rfl (by kernel_rfl) (by kernel_rfl) (by kernel_rfl) (fun _ _ _ h=>h) (Or.inl ⟨by rfl,?_⟩) (by assumption) ?_
   rotate_left
   ·intro w hSw; (try dsimp only at hSw); go_simp; (try with_reducible rfl)
   try simp only [Act.put,List.setIfInBounds_toArray,List.set_cons_succ,List.set_cons_zero]
   refine wpAnyH_ready (rs:=[8]) (by kernel_rfl) (by simp) ?_
   refine AllReadyH.cons rfl (fun K hK=>?_) AllReadyH.nil
   go_simp
   (with_reducible refine (DN.out).mono ?_)
   rintro e wb ⟨rfl,h7⟩
   dsimp only
   have hf:=hfin.out wb h7
   obtain ⟨m',col',eq,hcc,H7,V7⟩:=h7
   have c0':wb.cell? ⟨g3,i * 6,none⟩ = some (.int .i64 (ln:Int)):=by
    obtain ⟨g4,e4,hc4⟩:=H7.gp (by simp only [List.length_set]; omega)
    rw [eq.2.1,hP] at e4
    injection e4 with e4
    injection e4 with e4
    subst e4
    have:=(hc4 i (by simp only [List.length_set]; exact hi)).c0
    simp only [List.getElem_set_self,poSet] at this
    rw [hln.out] at this
    exact this
   have j13:=H7.cs.c13
   rw [eq.1,eq.2.2.2.1] at j13
   refine hK.out _ _ ⟨j13,c0'⟩ (fun hHeld=>?_)
   clear hK K j13 c0' H7 V7 hcc eq H5 DN hHeld c0 i13 hfin hup2 hup3
   refine wpAnyH_done (by kernel_rfl) ?_ _
   refine NoPanic.normal ?_
   go_wp2_with fail
   go_ret
   exact hf
set_option maxRecDepth 100000 in
set_option maxHeartbeats 6400000 in
theorem followR (w:World) (m:Sm) (S:Sp) (col:Nat → Nat) (c:Nat) (h:SpAt w m S col c) (hok:DbOk S.db) (hv:∀ a ∈ allN S.db,LaValid a) (gp:Nat) (hP:m.P = some ⟨gp,0,none⟩) (i:Nat) (hi:i < S.ps.length) (p:Po) (hp:S.ps[i] = p) (hl:0 ≤ p.l ∧ p.l < 256) (hup:p.ph = 2 → (S.fl p.l.toNat).isSome = true)
  (ph lf:Int) (mb sb:Nat)
  (FC:∀ W,Below w.heap.size w W → Calls Tryz.prog 117 #[.agg #[.int .i64 p.ph,.int .i64 p.lf],.pointer (some ⟨mb,0,none⟩),.pointer (some ⟨sb,0,none⟩)] W fun e w'=>e = .returned (.tuple #[.agg #[.int .i64 ph,.int .i64 lf],.int .i64 (He.evt p.ph ph),.int .i64 0]) ∧ Below W.heap.size W w') :
  Calls Tryz.prog 88 #[.pointer (some ⟨m.g,0,none⟩),.pointer (some ⟨gp,i * 6,none⟩),.func (.func 117) #[] #[.pointer (some ⟨mb,0,none⟩),.pointer (some ⟨sb,0,none⟩)]] w (ToPost w m col c (folS S i ph lf) (.int .i64 (He.evt p.ph ph))):=by
 obtain ⟨gp',hP',hpc⟩:=h.gp (by omega)
 obtain rfl:gp' = gp:=by rw [hP] at hP'; injection hP' with e; injection e with e; exact e.symm
 have hpc:=hpc i hi
 rw [hp] at hpc
 have p3:=hpc.c3
 have p4:=hpc.c4'
 have p4':=hpc.c4
 have hfo:=folS_at (ph:=ph) (lf:=lf) hi
 rw [hp] at hfo
 replace hfo:=Lib.hid hfo
 replace FC:=Lib.hid (FC w (Below.refl _ _))
 replace h:=Lib.hid h
 replace hup:=Lib.hid hup
 clear hpc hP'
 obtain ⟨ev,hev⟩:∃ ev,He.evt p.ph ph = ev:=⟨_,rfl⟩
 have hcs:=evt_cases p.ph ph
 rw [hev] at FC hfo hcs ⊢
 replace hev:=Lib.hid hev
 replace hcs:=Lib.hid hcs
 go_enter Tryz.func88,Tryz.ntmps88
 go_wp2_with fail
 (with_reducible refine (FC.out).mono ?_)
 rintro e w1 ⟨rfl,hb⟩
 clear FC p3 p4 p4'
 have hb2:=below_new' w1 (.cells #[.int .i64 ph,.int .i64 lf] 116)
 have kb:=Box.new' w1 #[.int .i64 ph,.int .i64 lf] 116 w1.heap.size _ rfl rfl
 have H1:=h.out.below hb
 have H2:=H1.below hb2
 have V2:Ev col c w (w1.alloc (.cells #[.int .i64 ph,.int .i64 lf] 116)):=(Eff.below hb).tr (Eff.below hb2)
 have hkg:gp' < w1.heap.size:=by
  have:=hb.size
  obtain ⟨g2,e2,hc2⟩:=h.out.gp (by omega)
  rw [hP] at e2
  injection e2 with e2
  injection e2 with e2
  subst e2
  have:=World.block_lt_of_cell? _ _ (hc2 i hi).c0
  simp only at this
  omega
 clear hb hb2 H1
 go_upto_region 4 with fail
 generalize hw2:World.alloc w1 _ = w2 at *
 clear hw2
 generalize w1.heap.size = kx at *
 obtain ⟨H3,V3⟩:=H2.state hP hi ph lf
 rw [hp] at H3
 have V3':=Lib.hid (V2.tr V3)
 obtain ⟨g2,e2,hc2⟩:=H2.gp (by omega)
 obtain rfl:g2 = gp':=by rw [hP] at e2; injection e2 with e; injection e with e; exact e.symm
 have hc2:=hc2 i hi
 have p3:=hc2.c3
 have p4:=hc2.c4'
 rw [hp] at p3 p4
 have f3:=H2.free hP (i * 6 + 3)
 have f4:=H2.free hP (i * 6 + 3 + 1)
 have k0:=kb.c 0 rfl
 have k1:=kb.c 1 rfl
 have kb3:=(kb.far (p:=⟨g2,i * 6 + 3,none⟩) (.int .i64 ph) (by simp only; omega)).far (p:=⟨g2,i * 6 + 3 + 1,none⟩) (.int .i64 lf) (by simp only; omega)
 have k0':=kb3.c 0 rfl
 replace H3:=Lib.hid H3
 obtain ⟨ln,hln⟩:=Int.eq_ofNat_of_zero_le hl.1
 have hln2:ln < 256:=by omega
 replace hln:=Lib.hid hln
 clear hc2 e2 V2 V3 kb3 hl H2
 go_upto_region 5 with fail
 clear p3 p4 f3 f4 k0 k1 kb
 replace k0':=k0'
 generalize hw4:World.setCell (World.setCell _ _ _) _ _ = w4 at *
 clear hw4
 go_upto_if 28 with fail
 clear k0'
 go_cut [] (fun wx=>SpAt wx m { S with ps:=S.ps.set i (poSet p ph lf) } col c ∧ Ev col c w wx)
 case first =>
  by_cases h0:ph = 0
  ·have e0:(ph == 0) = true:=by simp [h0]
   obtain ⟨H4,V4⟩:=H3.out.port hP (i:=i) (by simp only [List.length_set]; exact hi) 5 (by omega) (.int .i64 0) (poSet p ph lf) (by simp only [List.getElem_set_self]; unfold poSet; rw [if_pos h0]; rfl)
   simp only [List.set_set] at H4
   obtain ⟨g3,e3,hc3⟩:=H3.out.gp (by simp only [List.length_set]; omega)
   obtain rfl:g3 = g2:=by rw [hP] at e3; injection e3 with e; injection e with e; exact e.symm
   have c5:=(hc3 i (by simp only [List.length_set]; exact hi)).c5
   simp only [List.getElem_set_self] at c5
   have f5:=H3.out.free hP (i * 6 + 5)
   have V5:=V3'.out.tr V4
   replace h0:=Lib.hid h0
   clear hc3 e3
   go_wp2_with fail
   go_meet
   exact ⟨H4,V5⟩
  ·have e0:(ph == 0) = false:=by simp [h0]
   have H4:=H3.out
   have e1:poSet p ph lf = ⟨p.l,p.o,p.c,ph,lf,p.bt⟩:=by unfold poSet; rw [if_neg h0]
   rw [← e1] at H4
   go_wp2_with fail
   go_meet
   exact ⟨H4,V3'.out⟩
 case rest =>
  obtain ⟨H4,V4⟩:=hcut
  clear H3 V3' h
  replace H4:=Lib.hid H4
  replace V4:=Lib.hid V4
  have hcs2:ev = 0 ∨ (ev = 1 ∧ Hid (ph = 2)) ∨ (ev = 2 ∧ Hid (p.ph = 2)):=hcs.out
  clear hcs
  rcases hcs2 with rfl | ⟨rfl,hq⟩ | ⟨rfl,hq⟩
  ·have hf:ToPost w m col c (folS S i ph lf) (.int .i64 0) (.returned (.int .i64 0)) wc:=by
    rw [hfo.out]
    exact ⟨rfl,SpTo.of H4.out V4.out⟩
   clear H4 V4 hfo
   go_wp2_with fail
   go_ret
   exact hf
  ·have H5:=H4.out.below (w':=wc.drew) (Below.refl _ _).drew
   have V5:=V4.out.tr (Eff.below (E:=fun k=>col k = c) (Below.refl wc.heap.size wc).drew)
   have DA:=Lib.hid (dall_any wc.drew m.gd m.bd S.db H5.db hok)
   have hol:=orgs_len S.db
   obtain ⟨g3,e3,hc3⟩:=H5.gp (by simp only [List.length_set]; omega)
   obtain rfl:g3 = g2:=by rw [hP] at e3; injection e3 with e; injection e with e; exact e.symm
   have c0:=(hc3 i (by simp only [List.length_set]; exact hi)).c0
   simp only [List.getElem_set_self,poSet] at c0
   rw [hln.out] at c0 hfo
   have i13:=H5.cs.c13
   have i12:=H5.cs.c12
   have hfin:Hid (∀ W,SpTo wc.drew m col c { S with ps:=S.ps.set i (poSet p ph lf),fl:=Fd.setN S.fl ln (Fd.offs (fun _=>none) (allN S.db)) } W → ToPost w m col c (folS S i ph lf) (.int .i64 1) (.returned (.int .i64 1)) W):=fun W h1=>by
    rw [hfo.out]
    exact ⟨rfl,SpTo.from V5 h1⟩
   clear hc3 e3 V4 V5 H4
   go_upto_region 9 with fail
   refine wp_region_noPanic ?_
   refine wp_region_held_drew (S:=fun W=>W.cell? ⟨m.g,13,none⟩ = some (.pointer (some ⟨m.gf,0,none⟩)) ∧ W.cell? ⟨m.g,12,none⟩ = some (.pointer (some ⟨m.gd,0,none⟩)) ∧ W.cell? ⟨g3,i * 6,none⟩ = some (.int .i64 (ln:Int))) (by kernel_rfl) ⟨i13,i12,c0⟩ (fun hHeld=>?_)
   refine take_first (i:=0) (v:=?_) (some 35) rfl rfl (by kernel_rfl) (by kernel_rfl) (by kernel_rfl) (fun _ _ _ h=>h) (Or.inl ⟨by rfl,?_⟩) (by assumption) ?_
   rotate_left
   ·intro w hSw; (try dsimp only at hSw); go_simp; (try with_reducible rfl)
   try simp only [Act.put,List.setIfInBounds_toArray,List.set_cons_succ,List.set_cons_zero]
   refine take_first (i:=1) (v:=?_) (some 36) rfl rfl (by kernel_rfl) (by kernel_rfl) (by kernel_rfl) (fun _ _ _ h=>h) (Or.inl ⟨by rfl,?_⟩) (by assumption) ?_
   rotate_left
   ·intro w hSw; (try dsimp only at hSw); go_simp; (try with_reducible rfl)
   try simp only [Act.put,List.setIfInBounds_toArray,List.set_cons_succ,List.set_cons_zero]
   refine take_first (i:=2) (v:=?_) (some 37) rfl rfl (by kernel_rfl) (by kernel_rfl) (by kernel_rfl) (fun _ _ _ h=>h) (Or.inl ⟨by rfl,?_⟩) (by assumption) ?_
   rotate_left
   ·intro w hSw; (try dsimp only at hSw); go_simp; (try with_reducible rfl)
   try simp only [Act.put,List.setIfInBounds_toArray,List.set_cons_succ,List.set_cons_zero]
   refine take_first (i:=3) (v:=?_) (some 38) rfl rfl (by kernel_rfl) (by kernel_rfl) (by kernel_rfl) (fun _ _ _ h=>h) (Or.inl ⟨by rfl,?_⟩) (by assumption) ?_
   rotate_left
   ·intro w hSw; (try dsimp only at hSw); go_simp; (try with_reducible rfl)
   try simp only [Act.put,List.setIfInBounds_toArray,List.set_cons_succ,List.set_cons_zero]
   refine take_first (i:=4) (v:=?_) (some 39) rfl rfl (by kernel_rfl) (by kernel_rfl) (by kernel_rfl) (fun _ _ _ h=>h) (Or.inl ⟨by rfl,?_⟩) (by assumption) ?_
   rotate_left
   ·intro w hSw; (try dsimp only at hSw); go_simp; (try with_reducible rfl)
   try simp only [Act.put,List.setIfInBounds_toArray,List.set_cons_succ,List.set_cons_zero]
   refine take_first (i:=5) (v:=?_) (some 40) rfl rfl (by kernel_rfl) (by kernel_rfl) (by kernel_rfl) (fun _ _ _ h=>h) (Or.inl ⟨by rfl,?_⟩) (by assumption) ?_
   rotate_left
   ·intro w hSw; (try dsimp only at hSw); go_simp; (try with_reducible rfl)
   try simp only [Act.put,List.setIfInBounds_toArray,List.set_cons_succ,List.set_cons_zero]
   refine take_first (i:=6) (v:=?_) (some 41) rfl rfl (by kernel_rfl) (by kernel_rfl) (by kernel_rfl) (fun _ _ _ h=>h) (Or.inl ⟨by rfl,?_⟩) (by assumption) ?_
   rotate_left
   ·intro w hSw; (try dsimp only at hSw); go_simp; (try with_reducible rfl)
   try simp only [Act.put,List.setIfInBounds_toArray,List.set_cons_succ,List.set_cons_zero]
   refine take_first (i:=7) (v:=?_) (some 42) rfl rfl (by kernel_rfl) (by kernel_rfl) (by kernel_rfl) (fun _ _ _ h=>h) (Or.inl ⟨by rfl,?_⟩) (by assumption) ?_
   rotate_left
   ·intro w hSw; (try dsimp only at hSw); go_simp; (try with_reducible rfl)
   try simp only [Act.put,List.setIfInBounds_toArray,List.set_cons_succ,List.set_cons_zero]
   refine take_first (i:=8) (v:=?_) (some 43) rfl rfl (by kernel_rfl) (by kernel_rfl) (by kernel_rfl) (fun _ _ _ h=>h) (Or.inl ⟨by rfl,?_⟩) (by assumption) ?_
   rotate_left
   ·intro w hSw; (try dsimp only at hSw); go_simp; (try with_reducible rfl)
   try simp only [Act.put,List.setIfInBounds_toArray,List.set_cons_succ,List.set_cons_zero]
   refine take_first (i:=9) (v:=?_) (some 44) rfl rfl (by kernel_rfl) (by kernel_rfl) (by kernel_rfl) (fun _ _ _ h=>h) (Or.inl ⟨by rfl,?_⟩) (by assumption) ?_
   rotate_left
   ·intro w hSw; (try dsimp only at hSw); go_simp; (try with_reducible rfl)
   try simp only [Act.put,List.setIfInBounds_toArray,List.set_cons_succ,List.set_cons_zero]
   refine take_first (i:=10) (v:=?_) (some 45) rfl rfl (by kernel_rfl) (by kernel_rfl) (by kernel_rfl) (fun _ _ _ h=>h) (Or.inl ⟨by rfl,?_⟩) (by assumption) ?_
   rotate_left
   ·intro w hSw; (try dsimp only at hSw); go_simp; (try with_reducible rfl)
   try simp only [Act.put,List.setIfInBounds_toArray,List.set_cons_succ,List.set_cons_zero]
   refine take_first (i:=11) (v:=?_) (some 46) rfl rfl (by kernel_rfl) (by kernel_rfl) (by kernel_rfl) (fun _ _ _ h=>h) (Or.inl ⟨by rfl,?_⟩) (by assumption) ?_
   rotate_left
   ·intro w hSw; (try dsimp only at hSw); go_simp; (try with_reducible rfl)
   try simp only [Act.put,List.setIfInBounds_toArray,List.set_cons_succ,List.set_cons_zero]
   refine wpAnyH_ready (rs:=[12]) (by kernel_rfl) (by simp) ?_
   refine AllReadyH.cons rfl (fun K hK=>?_) AllReadyH.nil
   go_simp
   (with_reducible refine (DA.out).mono ?_)
   rintro e wa ⟨A,d,ls,rfl,own,hla,hlo,hb⟩
   dsimp only
   have H6:=H5.below hb
   refine hK.out _ _ ⟨H6.cs.c13,H6.cs.c12,cell_later hb c0⟩ (fun hHeld=>?_)
   clear hK K
   have hll:ls.length = (orgs S.db).length:=by
    have:=congrArg List.length hla
    simpa [laL,allN] using this
   have UP:=Lib.hid (sup_any wa m _ col c H6 hok ln hln2 A (orgs S.db).length d ls (own_slice own) hll hol hla (fun s hs=>(hlo s hs).ok) hv)
   refine wpAnyH_ready (rs:=[13]) (by kernel_rfl) (by simp) ?_
   refine AllReadyH.cons rfl (fun K hK=>?_) AllReadyH.nil
   go_simp
   (with_reducible refine (UP.out).mono ?_)
   rintro e wb ⟨rfl,h7⟩
   dsimp only
   have hf:=hfin.out wb (SpTo.from (Eff.below hb) h7)
   obtain ⟨m',col',eq,hcc,H7,V7⟩:=h7
   have c0':wb.cell? ⟨g3,i * 6,none⟩ = some (.int .i64 (ln:Int)):=by
    obtain ⟨g4,e4,hc4⟩:=H7.gp (by simp only [List.length_set]; omega)
    rw [eq.2.1,hP] at e4
    injection e4 with e4
    injection e4 with e4
    subst e4
    have:=(hc4 i (by simp only [List.length_set]; exact hi)).c0
    simp only [List.getElem_set_self,poSet] at this
    rw [hln.out] at this
    exact this
   have j13:=H7.cs.c13
   have j12:=H7.cs.c12
   rw [eq.1,eq.2.2.2.1] at j13
   rw [eq.1,eq.2.2.1] at j12
   refine hK.out _ _ ⟨j13,j12,c0'⟩ (fun hHeld=>?_)
   clear hK K j13 j12 c0' H7 V7 hcc eq H6 H5 UP DA own hla hlo hHeld c0 i12 i13 hfin
   refine wpAnyH_done (by kernel_rfl) ?_ _
   refine NoPanic.normal ?_
   go_wp2_with fail
   go_ret
   exact hf
  ·have H5:=H4.out.below (w':=wc.drew) (Below.refl _ _).drew
   have V5:=V4.out.tr (Eff.below (E:=fun k=>col k = c) (Below.refl wc.heap.size wc).drew)
   have hup2:=hup.out hq.out
   obtain ⟨g3,e3,hc3⟩:=H5.gp (by simp only [List.length_set]; omega)
   obtain rfl:g3 = g2:=by rw [hP] at e3; injection e3 with e; injection e with e; exact e.symm
   have c0:=(hc3 i (by simp only [List.length_set]; exact hi)).c0
   simp only [List.getElem_set_self,poSet] at c0
   rw [hln.out] at c0 hfo hup2
   have hup3:(S.fl ln).isSome = true:=hup2
   have i13:=H5.cs.c13
   have hfin:Hid (∀ W,SpTo wc.drew m col c { S with ps:=S.ps.set i (poSet p ph lf),fl:=Fd.dropN S.fl ln } W → ToPost w m col c (folS S i ph lf) (.int .i64 2) (.returned (.int .i64 2)) W):=fun W h1=>by
    rw [hfo.out]
    exact ⟨rfl,SpTo.from V5 h1⟩
   have DN:=Lib.hid (sdown_any wc.drew m _ col c H5 ln hln2 hup3)
   clear hc3 e3 V5 H4
   go_upto_region 11 with fail
   refine wp_region_noPanic ?_
   refine wp_region_held_drew (S:=fun W=>W.cell? ⟨m.g,13,none⟩ = some (.pointer (some ⟨m.gf,0,none⟩)) ∧ W.cell? ⟨g3,i * 6,none⟩ = some (.int .i64 (ln:Int))) (by kernel_rfl) ⟨i13,c0⟩ (fun hHeld=>?_)
   refine take_first (i:=0) (v:=?_) (some 51) rfl rfl (by kernel_rfl) (by kernel_rfl) (by kernel_rfl) (fun _ _ _ h=>h) (Or.inl ⟨by rfl,?_⟩) (by assumption) ?_
   rotate_left
   ·intro w hSw; (try dsimp only at hSw); go_simp; (try with_reducible rfl)
   try simp only [Act.put,List.setIfInBounds_toArray,List.set_cons_succ,List.set_cons_zero]
   refine take_first (i:=1) (v:=?_) (some 52) rfl rfl (by kernel_rfl) (by kernel_rfl) (by kernel_rfl) (fun _ _ _ h=>h) (Or.inl ⟨by rfl,?_⟩) (by assumption) ?_
   rotate_left
   ·intro w hSw; (try dsimp only at hSw); go_simp; (try with_reducible rfl)
   try simp only [Act.put,List.setIfInBounds_toArray,List.set_cons_succ,List.set_cons_zero]
   refine take_first (i:=2) (v:=?_) (some 53) rfl rfl (by kernel_rfl) (by kernel_rfl) (by kernel_rfl) (fun _ _ _ h=>h) (Or.inl ⟨by rfl,?_⟩) (by assumption) ?_
   rotate_left
   ·intro w hSw; (try dsimp only at hSw); go_simp; (try with_reducible rfl)
   try simp only [Act.put,List.setIfInBounds_toArray,List.set_cons_succ,List.set_cons_zero]
   refine take_first (i:=3) (v:=?_) (some 54) rfl rfl (by kernel_rfl) (by kernel_rfl) (by kernel_rfl) (fun _ _ _ h=>h) (Or.inl ⟨by rfl,?_⟩) (by assumption) ?_
   rotate_left
   ·intro w hSw; (try dsimp only at hSw); go_simp; (try with_reducible rfl)
   try simp only [Act.put,List.setIfInBounds_toArray,List.set_cons_succ,List.set_cons_zero]
   refine take_first (i:=4) (v:=?_) (some 55) rfl rfl (by kernel_rfl) (by kernel_rfl) (by kernel_rfl) (fun _ _ _ h=>h) (Or.inl ⟨by rfl,?_⟩) (by assumption) ?_
   rotate_left
   ·intro w hSw; (try dsimp only at hSw); go_simp; (try with_reducible rfl)
   try simp only [Act.put,List.setIfInBounds_toArray,List.set_cons_succ,List.set_cons_zero]
   refine take_first (i:=5) (v:=?_) (some 56) rfl rfl (by kernel_rfl) (by kernel_rfl) (by kernel_rfl) (fun _ _ _ h=>h) (Or.inl ⟨by rfl,?_⟩) (by assumption) ?_
   rotate_left
   ·intro w hSw; (try dsimp only at hSw); go_simp; (try with_reducible rfl)
   try simp only [Act.put,List.setIfInBounds_toArray,List.set_cons_succ,List.set_cons_zero]
   refine take_first (i:=6) (v:=?_) (some 57) rfl rfl (by kernel_rfl) (by kernel_rfl) (by kernel_rfl) (fun _ _ _ h=>h) (Or.inl ⟨by rfl,?_⟩) (by assumption) ?_
   rotate_left
   ·intro w hSw; (try dsimp only at hSw); go_simp; (try with_reducible rfl)
   try simp only [Act.put,List.setIfInBounds_toArray,List.set_cons_succ,List.set_cons_zero]
   refine take_first (i:=7) (v:=?_) (some 58) rfl rfl (by kernel_rfl) (by kernel_rfl) (by kernel_rfl) (fun _ _ _ h=>h) (Or.inl ⟨by rfl,?_⟩) (by assumption) ?_
   rotate_left
   ·intro w hSw; (try dsimp only at hSw); go_simp; (try with_reducible rfl)
   try simp only [Act.put,List.setIfInBounds_toArray,List.set_cons_succ,List.set_cons_zero]
   refine wpAnyH_ready (rs:=[8]) (by kernel_rfl) (by simp) ?_
   refine AllReadyH.cons rfl (fun K hK=>?_) AllReadyH.nil
   go_simp
   (with_reducible refine (DN.out).mono ?_)
   rintro e wb ⟨rfl,h7⟩
   dsimp only
   have hf:=hfin.out wb h7
   obtain ⟨m',col',eq,hcc,H7,V7⟩:=h7
   have c0':wb.cell? ⟨g3,i * 6,none⟩ = some (.int .i64 (ln:Int)):=by
    obtain ⟨g4,e4,hc4⟩:=H7.gp (by simp only [List.length_set]; omega)
    rw [eq.2.1,hP] at e4
    injection e4 with e4
    injection e4 with e4
    subst e4
    have:=(hc4 i (by simp only [List.length_set]; exact hi)).c0
    simp only [List.getElem_set_self,poSet] at this
    rw [hln.out] at this
    exact this
   have j13:=H7.cs.c13
   rw [eq.1,eq.2.2.2.1] at j13
   refine hK.out _ _ ⟨j13,c0'⟩ (fun hHeld=>?_)
   clear hK K j13 c0' H7 V7 hcc eq H5 DN hHeld c0 i13 hfin hup2 hup3
   refine wpAnyH_done (by kernel_rfl) ?_ _
   refine NoPanic.normal ?_
   go_wp2_with fail
   go_ret
   exact hf
end
end Go.Proofs.YtehimhbgakpenaaGreat

namespace Go.Proofs.YtehimhbgakpenaaGreat
set_option linter.unusedVariables false
open Go.RowKit Go.Maps Go.Sort
set_option maxHeartbeats 800000 in
theorem tck1_any (p l:Int) (w:World) (h:He.vld p l = true) :
  Calls Tryz.prog 89 #[.agg #[.int .i64 p,.int .i64 l]] w fun e w'=>e = .returned (.tuple #[.agg #[.int .i64 (He.tkP p l 1),.int .i64 (He.tkL p l 1)],.int .i64 (He.evt p (He.tkP p l 1)),.int .i64 0]) ∧ Below w.heap.size w w':=by
 have T:=fun W=>He.tick_ok p l 1 W h
 replace T:=Lib.hid T
 clear h
 go_enter Tryz.func89,Tryz.ntmps89
 go_wp2_with fail
 (with_reducible refine (T.out _).mono ?_)
 rintro e w1 ⟨rfl,hb⟩
 have c1:=cell_later hb (a:=⟨w.heap.size + 1,0,none⟩) (v:=.int .i64 0) (by simp)
 have c2:=cell_later hb (a:=⟨w.heap.size + 1,1,none⟩) (v:=.int .i64 0) (by simp)
 have f1:=free_later hb (a:=⟨w.heap.size + 1,0,none⟩) (v:=.int .i64 0) (by simp) (by simp)
 have f2:=free_later hb (a:=⟨w.heap.size + 1,1,none⟩) (v:=.int .i64 0) (by simp) (by simp)
 have hb2:=((below_new w _).alloc (by simp) _).trans (hb.mono (by simp; omega))
 clear T hb
 go_wp2_with fail
 exact bodyPost_ret (v:=.tuple #[.agg #[.int .i64 (He.tkP p l 1),.int .i64 (He.tkL p l 1)],.int .i64 (He.evt p (He.tkP p l 1)),.int .i64 0]) (by simp [results,Tryz.results89,go_sem,c1,c2]) rfl ⟨rfl,(hb2.setCell (p:=⟨w.heap.size + 1,0,none⟩) (Nat.le_succ _) _).setCell (p:=⟨w.heap.size + 1,1,none⟩) (Nat.le_succ _) _⟩
set_option maxRecDepth 100000 in
set_option maxHeartbeats 1600000 in
theorem rcv1_any (w:World) (m:Sm) (S:Sp) (col:Nat → Nat) (c:Nat) (h:SpAt w m S col c) (p l:Int) (hv:He.vld p l = true) (h2:1 ≤ S.h2 ∧ S.h2 ≤ 65536) (mb sb:Nat) (hh:Int) (hm:w.cell? ⟨mb,3,none⟩ = some (.int .i64 hh)) (hs:w.cell? ⟨sb,0,none⟩ = some (.pointer (some ⟨m.g,0,none⟩))) :
  Calls Tryz.prog 117 #[.agg #[.int .i64 p,.int .i64 l],.pointer (some ⟨mb,0,none⟩),.pointer (some ⟨sb,0,none⟩)] w fun e w'=>e = .returned (.tuple #[.agg #[.int .i64 (if hh == S.bo then 2 else 1),.int .i64 S.h2],.int .i64 (He.evt p (if hh == S.bo then 2 else 1)),.int .i64 0]) ∧ Below w.heap.size w w':=by
 have T:=fun W=>He.receive_ok p l S.h2 (hh == S.bo) W hv h2.1 h2.2
 obtain ⟨q,hq⟩:∃ q:Int,(if hh == S.bo then 2 else 1) = q:=⟨_,rfl⟩
 rw [hq] at T ⊢
 clear hq
 have hbx:=(below_new' w (.cells #[.int .i64 p,.int .i64 l] 116)).trans ((below_new' (w.alloc (.cells #[.int .i64 p,.int .i64 l] 116)) (.cells #[.int .i64 0,.int .i64 0] 116)).mono (by simp))
 have k4:=cell_later hbx h.cs.c4
 have k6:=cell_later hbx h.cs.c6
 have km:=cell_later hbx hm
 have ks:=cell_later hbx hs
 have b0:((w.alloc (.cells #[.int .i64 p,.int .i64 l] 116)).alloc (.cells #[.int .i64 0,.int .i64 0] 116)).cell? ⟨w.heap.size,0,none⟩ = some (.int .i64 p):=by simp
 have b1:((w.alloc (.cells #[.int .i64 p,.int .i64 l] 116)).alloc (.cells #[.int .i64 0,.int .i64 0] 116)).cell? ⟨w.heap.size,1,none⟩ = some (.int .i64 l):=by simp
 have c1:((w.alloc (.cells #[.int .i64 p,.int .i64 l] 116)).alloc (.cells #[.int .i64 0,.int .i64 0] 116)).cell? ⟨w.heap.size + 1,0,none⟩ = some (.int .i64 0):=by simp
 have c2:((w.alloc (.cells #[.int .i64 p,.int .i64 l] 116)).alloc (.cells #[.int .i64 0,.int .i64 0] 116)).cell? ⟨w.heap.size + 1,1,none⟩ = some (.int .i64 0):=by simp
 have f1:((w.alloc (.cells #[.int .i64 p,.int .i64 l] 116)).alloc (.cells #[.int .i64 0,.int .i64 0] 116)).frozen? ⟨w.heap.size + 1,0,none⟩ = false:=by simp
 have f2:((w.alloc (.cells #[.int .i64 p,.int .i64 l] 116)).alloc (.cells #[.int .i64 0,.int .i64 0] 116)).frozen? ⟨w.heap.size + 1,1,none⟩ = false:=by simp
 replace T:=Lib.hid T
 have hmg:m.g < w.heap.size:=ty_lt h.tg
 have hmb:=World.block_lt_of_cell? _ _ hm
 have hsb:=World.block_lt_of_cell? _ _ hs
 simp only at hmb hsb
 clear h hv h2 hm hs
 go_enter Tryz.func117,Tryz.ntmps117
 go_upto_region 1 with fail
 generalize (w.alloc (.cells #[.int .i64 p,.int .i64 l] 116)).alloc (.cells #[.int .i64 0,.int .i64 0] 116) = w2 at *
 have n1:¬ m.g = w.heap.size + 1:=by omega
 have n2:¬ mb = w.heap.size + 1:=by omega
 have n3:¬ sb = w.heap.size + 1:=by omega
 have n4:¬ w.heap.size = w.heap.size + 1:=by omega
 have n1':¬ w.heap.size + 1 = m.g:=by omega
 have n2':¬ w.heap.size + 1 = mb:=by omega
 have n3':¬ w.heap.size + 1 = sb:=by omega
 have n4':¬ w.heap.size + 1 = w.heap.size:=by omega
 have hs2:w.heap.size + 1 < w2.heap.size:=World.block_lt_of_cell? _ _ c1
 generalize hk:w.heap.size + 1 = k at *
 have hbx2:=Lib.hid hbx
 clear hbx hmg hmb hsb
 go_region_held3 (fun W=>W.cell? ⟨w.heap.size,0,none⟩ = some (.int .i64 p) ∧ W.cell? ⟨w.heap.size,1,none⟩ = some (.int .i64 l) ∧ W.cell? ⟨mb,3,none⟩ = some (.int .i64 hh) ∧ W.cell? ⟨sb,0,none⟩ = some (.pointer (some ⟨m.g,0,none⟩)) ∧ W.cell? ⟨m.g,4,none⟩ = some (.int .i64 S.bo) ∧ W.cell? ⟨m.g,6,none⟩ = some (.int .i64 S.h2)) (first | assumption | go_keep)
  (first | (go_at_call 118; (with_reducible refine (T.out _).mono ?_); rintro e w3 ⟨rfl,hb3⟩; have q0:=cell_later hb3 b0; have q1:=cell_later hb3 b1; have q2:=cell_later hb3 km; have q3:=cell_later hb3 ks; have q4:=cell_later hb3 k4; have q5:=cell_later hb3 k6; have g1:=free_later hb3 c1 f1; have g2:=free_later hb3 c2 f2; have d1:=cell_later hb3 c1; have d2:=cell_later hb3 c2))
 have hb4:Below w.heap.size w w3:=hbx2.out.drew.trans (hb3.mono (by have:=hbx2.out.drew.size; exact this))
 clear hb3 q0 q1 q2 q3 q4 q5 T k4 k6 km ks b0 b1 c1 c2 f1 f2
 go_wp2_with fail
 exact bodyPost_ret (v:=.tuple #[.agg #[.int .i64 q,.int .i64 S.h2],.int .i64 (He.evt p q),.int .i64 0]) (by simp [results,Tryz.results117,go_sem,d1,d2]) rfl ⟨rfl,(hb4.setCell (p:=⟨k,0,none⟩) (by simp only; omega) _).setCell (p:=⟨k,1,none⟩) (by simp only; omega) _⟩
theorem chg_0 {S:Sp} {i:Nat} {p:Po} (hi:i < S.ps.length) (hp:S.ps[i] = p) {ph lf:Int} (h:He.evt p.ph ph = 0):chgS S i ph lf = folS S i ph lf:=by
 unfold chgS phS
 rw [List.getElem?_eq_getElem hi,hp]
 simp only [h,if_true]
theorem chg_1 {S:Sp} {i:Nat} {p:Po} (hi:i < S.ps.length) (hp:S.ps[i] = p) {ph lf:Int} (h:He.evt p.ph ph ≠ 0):chgS S i ph lf = origS (folS S i ph lf):=by
 unfold chgS phS
 rw [List.getElem?_eq_getElem hi,hp]
 simp only [if_neg h]
structure OgOk (S:Sp):Prop where
 pl:S.ps.length ≤ 512
 pr:S.pre.length ≤ 1000000
 s0:0 ≤ S.x.s
 s1:S.x.s ≤ 1073741824
 x1:(setP S.x S.md (conS S)).x.adj.length ≤ 1000000
 x2:(setP S.x S.md (conS S)).x.pre.length ≤ 1000000
set_option maxRecDepth 100000 in
set_option maxHeartbeats 1600000 in
theorem changeF (w:World) (m:Sm) (S:Sp) (col:Nat → Nat) (c:Nat) (h:SpAt w m S col c) (hok:DbOk S.db) (hv:∀ a ∈ allN S.db,LaValid a) (gp:Nat) (hP:m.P = some ⟨gp,0,none⟩) (i:Nat) (hi:i < S.ps.length) (p:Po) (hp:S.ps[i] = p) (hl:0 ≤ p.l ∧ p.l < 256) (hup:p.ph = 2 → (S.fl p.l.toNat).isSome = true)
  (ph lf:Int)  (ho:OgOk (folS S i ph lf))
  (FC:∀ W,Below w.heap.size w W → Calls Tryz.prog 64 #[.agg #[.int .i64 p.ph,.int .i64 p.lf]] W fun e w'=>e = .returned (.tuple #[.agg #[.int .i64 ph,.int .i64 lf],.int .i64 (He.evt p.ph ph),.int .i64 0]) ∧ Below W.heap.size W w') :
  Calls Tryz.prog 63 #[.pointer (some ⟨m.g,0,none⟩),.pointer (some ⟨gp,i * 6,none⟩),.func (.func 64) #[] #[]] w (ToPost w m col c (chgS S i ph lf) (.tuple #[])):=by
 have FO:=Lib.hid (followF w m S col c h hok hv gp hP i hi p hp hl hup ph lf  FC)
 have h0:Hid (He.evt p.ph ph = 0 → chgS S i ph lf = folS S i ph lf):=chg_0 hi hp
 have h1:Hid (He.evt p.ph ph ≠ 0 → chgS S i ph lf = origS (folS S i ph lf)):=chg_1 hi hp
 generalize folS S i ph lf = S2 at *
 generalize chgS S i ph lf = S3 at *
 generalize He.evt p.ph ph = ev at *
 replace ho:=Lib.hid ho
 clear FC h hv hP hp hl hup
 go_enter Tryz.func63,Tryz.ntmps63
 go_wp2_with fail
 (with_reducible refine (FO.out).mono ?_)
 rintro e w1 ⟨rfl,hto⟩
 clear FO
 by_cases he:ev = 0
 ·have e1:(ev != 0) = false:=by simp [he]
  have hf:ToPost w m col c S3 (.tuple #[]) (.returned (.tuple #[])) w1:=by
   rw [h0.out he]
   exact ⟨rfl,hto⟩
  replace he:=Lib.hid he
  clear hto h0 h1
  go_wp2_with fail
  exact bodyPost_end (v:=.tuple #[]) (by simp [results,Tryz.results63,go_sem]) rfl hf
 ·have e1:(ev != 0) = true:=by simp [he]
  have e2:=h1.out he
  obtain ⟨m',col',eq,hcc,H,V⟩:=hto
  have OG:=originate_any w1 m' S2 col' c H ho.out.pl ho.out.pr ho.out.s0 ho.out.s1 ho.out.x1 ho.out.x2
  rw [eq.1] at OG
  have hfin:Hid (∀ W,SpPost w1 m' col' c (origS S2) (.tuple #[]) (.returned (.tuple #[])) W → ToPost w m col c S3 (.tuple #[]) (.returned (.tuple #[])) W):=fun W h2=>by
   rw [e2]
   exact ⟨rfl,m',col',eq,hcc,h2.2.1,ev_trans V h2.2.2 hcc⟩
  replace OG:=Lib.hid OG
  replace he:=Lib.hid he
  clear e2 h0 h1 H V eq hcc
  go_wp2_with fail
  (with_reducible refine (OG.out).mono ?_)
  rintro e w2 P2
  obtain ⟨rfl,P3⟩:=P2
  have hf:=hfin.out w2 ⟨rfl,P3⟩
  clear OG P3 hfin
  go_wp2_with fail
  exact bodyPost_end (v:=.tuple #[]) (by simp [results,Tryz.results63,go_sem]) rfl hf
set_option maxRecDepth 100000 in
set_option maxHeartbeats 1600000 in
theorem changeR (w:World) (m:Sm) (S:Sp) (col:Nat → Nat) (c:Nat) (h:SpAt w m S col c) (hok:DbOk S.db) (hv:∀ a ∈ allN S.db,LaValid a) (gp:Nat) (hP:m.P = some ⟨gp,0,none⟩) (i:Nat) (hi:i < S.ps.length) (p:Po) (hp:S.ps[i] = p) (hl:0 ≤ p.l ∧ p.l < 256) (hup:p.ph = 2 → (S.fl p.l.toNat).isSome = true)
  (ph lf:Int) (mb sb:Nat) (ho:OgOk (folS S i ph lf))
  (FC:∀ W,Below w.heap.size w W → Calls Tryz.prog 117 #[.agg #[.int .i64 p.ph,.int .i64 p.lf],.pointer (some ⟨mb,0,none⟩),.pointer (some ⟨sb,0,none⟩)] W fun e w'=>e = .returned (.tuple #[.agg #[.int .i64 ph,.int .i64 lf],.int .i64 (He.evt p.ph ph),.int .i64 0]) ∧ Below W.heap.size W w') :
  Calls Tryz.prog 63 #[.pointer (some ⟨m.g,0,none⟩),.pointer (some ⟨gp,i * 6,none⟩),.func (.func 117) #[] #[.pointer (some ⟨mb,0,none⟩),.pointer (some ⟨sb,0,none⟩)]] w (ToPost w m col c (chgS S i ph lf) (.tuple #[])):=by
 have FO:=Lib.hid (followR w m S col c h hok hv gp hP i hi p hp hl hup ph lf mb sb FC)
 have h0:Hid (He.evt p.ph ph = 0 → chgS S i ph lf = folS S i ph lf):=chg_0 hi hp
 have h1:Hid (He.evt p.ph ph ≠ 0 → chgS S i ph lf = origS (folS S i ph lf)):=chg_1 hi hp
 generalize folS S i ph lf = S2 at *
 generalize chgS S i ph lf = S3 at *
 generalize He.evt p.ph ph = ev at *
 replace ho:=Lib.hid ho
 clear FC h hv hP hp hl hup
 go_enter Tryz.func63,Tryz.ntmps63
 go_wp2_with fail
 (with_reducible refine (FO.out).mono ?_)
 rintro e w1 ⟨rfl,hto⟩
 clear FO
 by_cases he:ev = 0
 ·have e1:(ev != 0) = false:=by simp [he]
  have hf:ToPost w m col c S3 (.tuple #[]) (.returned (.tuple #[])) w1:=by
   rw [h0.out he]
   exact ⟨rfl,hto⟩
  replace he:=Lib.hid he
  clear hto h0 h1
  go_wp2_with fail
  exact bodyPost_end (v:=.tuple #[]) (by simp [results,Tryz.results63,go_sem]) rfl hf
 ·have e1:(ev != 0) = true:=by simp [he]
  have e2:=h1.out he
  obtain ⟨m',col',eq,hcc,H,V⟩:=hto
  have OG:=originate_any w1 m' S2 col' c H ho.out.pl ho.out.pr ho.out.s0 ho.out.s1 ho.out.x1 ho.out.x2
  rw [eq.1] at OG
  have hfin:Hid (∀ W,SpPost w1 m' col' c (origS S2) (.tuple #[]) (.returned (.tuple #[])) W → ToPost w m col c S3 (.tuple #[]) (.returned (.tuple #[])) W):=fun W h2=>by
   rw [e2]
   exact ⟨rfl,m',col',eq,hcc,h2.2.1,ev_trans V h2.2.2 hcc⟩
  replace OG:=Lib.hid OG
  replace he:=Lib.hid he
  clear e2 h0 h1 H V eq hcc
  go_wp2_with fail
  (with_reducible refine (OG.out).mono ?_)
  rintro e w2 P2
  obtain ⟨rfl,P3⟩:=P2
  have hf:=hfin.out w2 ⟨rfl,P3⟩
  clear OG P3 hfin
  go_wp2_with fail
  exact bodyPost_end (v:=.tuple #[]) (by simp [results,Tryz.results63,go_sem]) rfl hf
end Go.Proofs.YtehimhbgakpenaaGreat
