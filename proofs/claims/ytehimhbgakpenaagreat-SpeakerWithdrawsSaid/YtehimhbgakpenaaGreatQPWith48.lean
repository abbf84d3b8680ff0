/-
  The texts SpW0, SpW, one after the other.
-/
import Derived.Test.YtehimhbgakpenaaGreatQPWith46
import Derived.Test.YtehimhbgakpenaaGreatQPWith27
import Derived.Deep.RegionHeld3
namespace Go.Proofs.YtehimhbgakpenaaGreat
set_option linter.unusedVariables false
set_option linter.unusedSimpArgs false
open Go.RowKit Go.Maps Go.Sort
theorem alloc_size2 (w:World) (a b:Obj):((w.alloc a).alloc b).heap.size = w.heap.size + 2:=by simp
def GClPost2 (w:World) (t:Tp) (e:Ending) (w':World):Prop :=
 ∃ A c B d,e = .returned (tpV t.n A t.ov.length c B t.ln.length d) ∧ w'.ownsRow w.heap.size 4 1 (.slice A t.ov.length c) t.ov.length (boV t.ov) ∧ w'.ownsRow w.heap.size 79 7 (.slice B t.ln.length d) t.ln.length (lksV t.ln) ∧ Below w.heap.size w w'
set_option maxRecDepth 100000 in
set_option maxHeartbeats 3200000 in
theorem gclone2_any (w:World) (v:Value) (t:Tp) (h:TpAt w v t) (h1:t.ov.length ≤ 1000000) (h2:t.ln.length ≤ 1000000):Calls Tryz.prog 33 #[v] w (GClPost2 w t):=by
 obtain ⟨A,c,B,d,rfl,rA,rB,h3,h4⟩:=h
 have S:=((((St.start w).read rB).read rA).new' #[.int .i64 t.n,.slice A t.ov.length c,.slice B t.ln.length d] 25 w.heap.size _ rfl rfl).new' #[.int .i64 0,.slice none 0 0,.slice none 0 0] 25 (w.heap.size + 1) _ (by simp) rfl
 have C1:=fun W (h:Rd W A (boV t.ov))=>clone_bo W A _ c t.ov h rfl h1
 have C2:=fun W (h:Rd W B (lksV t.ln))=>clone_lk W B _ d t.ln h rfl h2
 unfold ClonePost at C1 C2
 unfold GClPost2
 replace C1:=Lib.hid C1
 replace C2:=Lib.hid C2
 clear rA rB h1 h2 h3 h4
 generalize t.ov.length = k at *
 generalize t.ln.length = m at *
 generalize t.n = n at *
 have a0:=S.c 1 0 rfl rfl
 have a1:=S.c 1 1 rfl rfl
 have a2:=S.c 1 2 rfl rfl
 go_enter Tryz.func33,Tryz.ntmps33
 go_wp2_with fail
 (with_reducible refine (C1.out _ (S.r 0 rfl)).mono ?_)
 rintro e w1 ⟨A1,c1,rfl,o1,hb⟩
 clear a0 a1 a2 C1
 replace S:=S.call hb
 clear hb
 have a0:=S.c 1 0 rfl rfl
 have a1:=S.c 1 1 rfl rfl
 have a2:=S.c 1 2 rfl rfl
 have f0:=S.f 1 0 rfl rfl
 have f1:=S.f 1 1 rfl rfl
 have f2:=S.f 1 2 rfl rfl
 have S2:=S.set 1 1 (.slice A1 k c1) rfl (by simp) (Nat.le_refl _) (by simp) _ rfl
 have hsz:=S2.b.size
 have hlt:=(S2.box 0 rfl).lt (by simp)
 go_wp2_with fail
 replace o1:=ownsRow_setCell_below (a:=⟨w.heap.size,1,none⟩) o1 (by simp only [alloc_size2]; omega) (.slice A1 k c1)
 generalize w1.setCell ⟨w.heap.size,1,none⟩ (.slice A1 k c1) = w2 at *
 (with_reducible refine (C2.out _ (S2.r 1 rfl)).mono ?_)
 rintro e w3 ⟨B1,d1,rfl,o2,hb⟩
 clear a0 a1 a2 f0 f1 f2 C2 S
 replace S2:=S2.call hb
 replace o1:=own_below o1 hb
 clear hb
 have a0:=S2.c 1 0 rfl rfl
 have a1:=S2.c 1 1 rfl rfl
 have a2:=S2.c 1 2 rfl rfl
 have f0:=S2.f 1 0 rfl rfl
 have f1:=S2.f 1 1 rfl rfl
 have f2:=S2.f 1 2 rfl rfl
 have r0:=S2.c 0 0 rfl rfl
 have r1:=S2.c 0 1 rfl rfl
 have r2:=S2.c 0 2 rfl rfl
 have q0:=S2.f 0 0 rfl rfl
 have q1:=S2.f 0 1 rfl rfl
 have q2:=S2.f 0 2 rfl rfl
 have S9:=(S2.set 1 2 (.slice B1 m d1) rfl (by simp) (Nat.le_refl _) (by simp) _ rfl).set3 (.int .i64 n) (.slice A1 k c1) (.slice B1 m d1) (by omega) (by simp)
 have o4:=own_set3 (ownsRow_setCell_below (a:=⟨w.heap.size,2,none⟩) o2 (by simp only; omega) (.slice B1 m d1)) (g:=w.heap.size + 1) (by omega) (.int .i64 n) (.slice A1 k c1) (.slice B1 m d1)
 have o5:=own_set3 (ownsRow_setCell_below (a:=⟨w.heap.size,2,none⟩) o1 (by simp only [alloc_size2]; omega) (.slice B1 m d1)) (g:=w.heap.size + 1) (by simp only [alloc_size2]; omega) (.int .i64 n) (.slice A1 k c1) (.slice B1 m d1)
 have hf0:=own_mono o5 (base:=w.heap.size) (by simp only [alloc_size2]; omega)
 have hf:=own_mono o4 (base:=w.heap.size) (by omega)
 have hb9:=S9.b
 go_wp2_with fail
 exact bodyPost_ret (v:=tpV n A1 k c1 B1 m d1) (by simp [results,Tryz.results33,go_sem,r0,r1,r2]) rfl ⟨_,_,_,_,rfl,hf0,hf,hb9⟩
def OrNew2 (w:World) (node:Int) (e:Ending) (w':World):Prop :=
 e = .returned (.tuple #[.pointer (some ⟨w.heap.size,0,none⟩),.int .i64 0]) ∧ OrAt w' w.heap.size ⟨node,0,0,false,[],[]⟩ false ∧ Ty w' w.heap.size 166 ∧ Below w.heap.size w w'
set_option maxRecDepth 100000 in
set_option maxHeartbeats 800000 in
theorem onew2_any (w:World) (node:Int) (h0:0 ≤ node) (h1:node < 64):Calls Tryz.prog 37 #[.int .i64 node] w (OrNew2 w node):=by
 have hfin:Hid (OrNew2 w node (.returned (.tuple #[.pointer (some ⟨w.heap.size,0,none⟩),.int .i64 0])) (w.alloc (.cells #[.bool false,.slice none 0 0,.slice none 0 0,.int .i64 node,.int .i64 0,.bool false,.int .i64 0] 166))) :=
  ⟨rfl,⟨none,0,none,0,Box.new w #[.bool false,.slice none 0 0,.slice none 0 0,.int .i64 node,.int .i64 0,.bool false,.int .i64 0] _,Rd.nil _ _,Rd.nil _ _,by simp,by simp [maxLen],by simp,by simp [maxLen],by simp,by simp,by simp⟩,ty_new _ _ _,below_new' _ _⟩
 go_enter Tryz.func37,Tryz.ntmps37
 go_wp2_with fail
 go_ret2
 exact hfin.out
end Go.Proofs.YtehimhbgakpenaaGreat

namespace Go.Proofs.YtehimhbgakpenaaGreat
set_option linter.unusedVariables false
set_option linter.unusedSimpArgs false
open Go.RowKit Go.Maps Go.Sort
structure NyAt (w:World) (g:Nat) (t:Tp) (A B:Option Addr):Prop where
 tg:Ty w g 109
 rO:Rd w A (boV t.ov) ∧ Fd.TyF w A t.ov.length 4
 rL:Rd w B (lksV t.ln) ∧ Fd.TyF w B t.ln.length 79
section
variable {w w':World} {g:Nat} {t:Tp} {A B:Option Addr}
theorem NyAt.eff (h:NyAt w g t A B) {E:Nat → Prop} (he:Eff E w w'):NyAt w' g t A B:=⟨he.ty _ _ h.tg,he.tp h.rO.1 h.rO.2 (by rw [boV_len]; exact id) bool_imm,he.tp h.rL.1 h.rL.2 (by rw [lksV_len]; omega) link_imm⟩
theorem NyAt.below (h:NyAt w g t A B) (hb:Below w.heap.size w w'):NyAt w' g t A B:=h.eff (E:=fun _=>False) (Eff.below hb)
theorem NyAt.set (h:NyAt w g t A B) (j:Nat) (u:Value):NyAt (w.setCell ⟨g,j,none⟩ u) g t A B:=h.eff (E:=fun k=>k = g) (Eff.setCell (E:=fun k=>k = g) h.tg (.inl rfl) rfl j u)
theorem ty_app {w w':World} {k base:Nat} {T:TypeId} {v:Value} {n:Nat} {xs:List Value} (ht:Ty w k T) (ho:w.ownsRow base 118 6 v n xs) (hne:T ≠ 118) (hg:w.grownBy w' v.ownBlock):Ty w' k T:=by
 have e:=ty_other ht ho hne hg
 obtain ⟨cur,fr,e2⟩:=ht
 exact ⟨cur,fr,e.trans e2⟩
theorem rd_app {w w':World} {A:Option Addr} {base:Nat} {T:TypeId} {v:Value} {n m:Nat} {xs ys:List Value} (hr:Rd w A ys) (ht:Fd.TyF w A m T) (hm:0 < ys.length → 0 < m) (ho:w.ownsRow base 118 6 v n xs) (hne:T ≠ 118) (hg:w.grownBy w' v.ownBlock):Rd w' A ys ∧ Fd.TyF w' A m T:=by
 refine ⟨fun hx=>?_,fun hn ad ha=>ty_app (ht hn ad ha) ho hne hg⟩
 obtain ⟨ad,e,hc⟩:=hr hx
 refine ⟨ad,e,fun j u hu=>?_⟩
 have e2:w'.heap[(ad.add j).block]? = w.heap[(ad.add j).block]?:=by rw [addr_add_block]; exact ty_other (ht (hm hx) ad e) ho hne hg
 rw [World.cell?_of_block e2]
 exact hc j u hu
theorem NyAt.app (h:NyAt w g t A B) {base:Nat} {v:Value} {n:Nat} {xs:List Value} (ho:w.ownsRow base 118 6 v n xs) (hg:w.grownBy w' v.ownBlock):NyAt w' g t A B :=
 ⟨ty_app h.tg ho (by decide) hg,rd_app h.rO.1 h.rO.2 (by rw [boV_len]; exact id) ho (by decide) hg,rd_app h.rL.1 h.rL.2 (by rw [lksV_len]; omega) ho (by decide) hg⟩
end
def N1b (w2:World) (t:Tp) (node h1 h2 h3:Int) (ov:Bool) (v12:Value) (wx:World):Prop :=
 ∃ g gd bd A5 c5 B5 d5,v12 = .pointer (some ⟨g,0,none⟩) ∧ Below w2.heap.size w2 wx ∧ Box wx g [.int .i64 t.n,.slice A5 t.ov.length c5,.slice B5 t.ln.length d5,.int .i64 node,.int .i64 1,.int .i64 h1,.int .i64 h2,.int .i64 h3,.int .i64 0,.slice none 0 0,.bool ov,.slice none 0 0,.pointer (some ⟨gd,0,none⟩),.pointer none,.pointer none] ∧ NyAt wx g t A5 B5 ∧ DbAt wx gd bd Db0 ∧ w2.heap.size ≤ bd ∧ bd < gd ∧ gd < g ∧ g < wx.heap.size
theorem n1b_of {w2 wc:World} {gd bd b1:Nat} (hB2:Below w2.heap.size w2 wc) (hD:DbAt wc gd bd Db0) (o1:w2.heap.size ≤ bd) (o2:bd < gd) (t:Tp) (A5:Option Addr) (c5:Nat) (B5:Option Addr) (d5:Nat) (oO:wc.ownsRow b1 4 1 (.slice A5 t.ov.length c5) t.ov.length (boV t.ov)) (oL:wc.ownsRow b1 79 7 (.slice B5 t.ln.length d5) t.ln.length (lksV t.ln)) (node h1 h2 h3:Int) (ov:Bool) :
  N1b w2 t node h1 h2 h3 ov (.pointer (some ⟨wc.heap.size,0,none⟩)) (wc.alloc (.cells #[.int .i64 t.n,.slice A5 t.ov.length c5,.slice B5 t.ln.length d5,.int .i64 node,.int .i64 1,.int .i64 h1,.int .i64 h2,.int .i64 h3,.int .i64 0,.slice none 0 0,.bool ov,.slice none 0 0,.pointer (some ⟨gd,0,none⟩),.pointer none,.pointer none] 109)) :=
 ⟨wc.heap.size,gd,bd,A5,c5,B5,d5,rfl,hB2.alloc hB2.size _,Box.new' wc _ _ _ _ rfl rfl,⟨ty_new _ _ _,⟨own_slice (own_below oO (below_new' _ _)),Fd.own_tf (own_below oO (below_new' _ _))⟩,⟨own_slice (own_below oL (below_new' _ _)),Fd.own_tf (own_below oL (below_new' _ _))⟩⟩,hD.below (below_new' _ _),o1,o2,hD.lt.1,by simp⟩
def ptI (t:Tp) (z:Int):Pt:=⟨z / 2,hdI t.ln z.toNat,coI t.ln z.toNat⟩
def poP (p:Pt):Po:=⟨p.l,p.o,p.c,0,0,0⟩
theorem poP_V (l:List Pt):poV (l.map poP) = ptV l:=by
 induction l with
 | nil=>rfl
 | cons p r ih=>simp only [List.map_cons,poV,ptV,ih]; rfl
def rawS (t:Tp) (node h1 h2 h3:Int):Sp:=⟨t,node,1,h1,h2,h3,0,((outs t node).map (ptI t)).map poP,ovB t node.toNat,[],Db0,Fn0,⟨node,0,0,false,[],[]⟩,false⟩
noncomputable def newS (t:Tp) (node h1 h2 h3:Int):Sp:=origS (rawS t node h1 h2 h3)
def NewP (w:World) (t:Tp) (node h1 h2 h3:Int) (col:Nat → Nat) (c:Nat) (e:Ending) (w':World):Prop :=
 ∃ m col',e = .returned (.tuple #[.pointer (some ⟨m.g,0,none⟩),.int .i64 0]) ∧ (∀ k,k < w.heap.size → col' k = col k) ∧ SpAt w' m (newS t node h1 h2 h3) col' c ∧ Below w.heap.size w w' ∧ w.heap.size ≤ m.gd ∧ w.heap.size ≤ m.gf
theorem Eff.toBelow {E:Nat → Prop} {w w':World} {B:Nat} (h:Eff E w w') (hE:∀ k,k < B → ¬ E k) (hB:B ≤ w.heap.size):Below B w w' :=
 ⟨h.os,h.tape,h.output,h.size,fun k hk=>h.off (Nat.lt_of_lt_of_le hk hB) (hE k hk)⟩
theorem raw_at {w wr:World} {t:Tp} {node h1 h2 h3:Int} {g gd bd bf go:Nat} {A5:Option Addr} {c5:Nat} {B5:Option Addr} {d5:Nat} {O:Option Addr} {q d:Nat} {zs:List Int} {P:Option Addr} {cc:Nat} {T0 T1 T2:Value} (hT:TpOk t)
  (N:NpAt w wr g gd bd (bf + 1) bf go h3 (fun _=>0) node (.int .i64 t.n) (.slice A5 t.ov.length c5) (.slice B5 t.ln.length d5) (.int .i64 node) (.int .i64 1) (.int .i64 h1) (.int .i64 h2) (.int .i64 h3) (.int .i64 0) (ovB t node.toNat) T0 T1 T2 O q d zs ((outs t node).map (ptI t)) P cc) (Y:NyAt wr g t A5 B5) (hgo:Ty wr go 166)
  (n1:w.heap.size < bd) (n2:bd < gd) (n3:gd < g) (n4:g < bf) (n6:bf + 1 < go) (col:Nat → Nat) (c:Nat) (hc0:c ≠ 0) :
  SpAt wr ⟨g,P,cc,gd,bd,bf + 1,bf,go,fun _=>0,A5,c5,B5,d5,none,0⟩ (rawS t node h1 h2 h3) (fun k=>if k < w.heap.size then col k else if k = gd ∨ k = bf + 1 then 0 else c) c:=by
 have hlen:((((outs t node).map (ptI t)).map poP).length) = ((outs t node).map (ptI t)).length:=by simp
 have hcol:∀ k,w.heap.size ≤ k → k ≠ gd → k ≠ bf + 1 → (fun k=>if k < w.heap.size then col k else if k = gd ∨ k = bf + 1 then 0 else c) k = c:=fun k a b1 b2=>by
  simp only
  rw [if_neg (by omega),if_neg (by omega)]
 have hbx:=N.S.box 0 rfl
 refine ⟨?_,Y.tg,?_,Y.rO,Y.rL,⟨Rd.nil _ _,fun h=>absurd h (by simp [rawS])⟩,⟨by simp [rawS],by simp [maxLen],by simp [rawS]⟩,⟨?_,?_⟩,N.db,N.fl,N.org,?_,hgo,?_,?_,?_,?_,?_,?_,?_,?_,hc0⟩
 ·simp only [spL,rawS,hlen,List.length_nil]
  exact hbx
 ·simp only [rawS,hlen,poP_V]
  exact own_mono N.own (by omega)
 ·have:=hT.ov; have:=hT.n; simp only [rawS,maxLen]; omega
 ·have:=hT.ln; simp only [rawS,maxLen]; omega
 ·obtain ⟨A,c1,B,d1,h0,_⟩:=N.org
  refine ⟨fun A' n c' hn hc=>?_,fun A' n c' hn hc=>?_⟩
  ·rw [h0.c 1 rfl] at hc; injection hc with hc; injection hc with _ hc _; subst hc; simp at hn
  ·rw [h0.c 2 rfl] at hc; injection hc with hc; injection hc with _ hc _; subst hc; simp at hn
 ·exact hcol g (by omega) (by omega) (by omega)
 ·intro k hk
  have hk':(Value.slice P ((outs t node).map (ptI t)).length cc).ownBlock = some k:=by simpa [rawS] using hk
  have:=(N.own.lt k hk').1
  exact hcol k (by omega) (by omega) (by omega)
 ·exact hcol go (by omega) (by omega) (by omega)
 ·exact hcol bd (by omega) (by omega) (by omega)
 ·exact hcol bf (by omega) (by omega) (by omega)
 ·intro i hi hs; cases hs
 ·refine ⟨?_,?_⟩
  ·show (if gd < w.heap.size then col gd else if gd = gd ∨ gd = bf + 1 then 0 else c) = 0
   rw [if_neg (by omega),if_pos (.inl rfl)]
  ·show (if bf + 1 < w.heap.size then col (bf + 1) else if bf + 1 = gd ∨ bf + 1 = bf + 1 then 0 else c) = 0
   rw [if_neg (by omega),if_pos (.inr rfl)]
 ·exact ⟨by simp only; omega,fun i hi hs=>by cases hs⟩
theorem wrapI {z:Int} (h0:0 ≤ z) (h1:z ≤ 1000000):IntKind.i64.wrap z = z:=IntWalk.i64_in z (by omega)
set_option maxRecDepth 100000 in
set_option maxHeartbeats 12800000 in
theorem spNew_any (w:World) (v:Value) (t:Tp) (node h1 h2 h3:Int) (ht:TpAt w v t) (hT:TpOk t) (hn0:0 ≤ node ∧ node < t.n) (htm:tmB h1 h2 h3 = true) (col:Nat → Nat) (c9:Nat) (hc0:c9 ≠ 0) (hcol:∀ k,k < w.heap.size → col k ≠ c9) :
  Calls Tryz.prog 7 #[v,.int .i64 node,.int .i64 1,.agg #[.int .i64 h1,.int .i64 h2,.int .i64 h3]] w (NewP w t node h1 h2 h3 col c9):=by
 have ht':=ht
 obtain ⟨A,c,B,d,rfl,rA,rB,l1,l2⟩:=ht
 have S:=((St.start w).new' #[.int .i64 t.n,.slice A t.ov.length c,.slice B t.ln.length d] 25 w.heap.size _ rfl rfl).new' #[.int .i64 h1,.int .i64 h2,.int .i64 h3] 27 (w.heap.size + 1) _ (by simp) rfl
 have TV:=tvalid_any _ _ t (ht'.below S.b)
 rw [tB_iff.2 hT] at TV
 obtain ⟨Q,hQ⟩:∃ z,NewP w t node h1 h2 h3 col c9 = z:=⟨_,rfl⟩
 have hw3:wiB h1 1 65536 = true ∧ wiB h2 1 65536 = true ∧ wiB h3 1 65536 = true:=by
  unfold tmB at htm
  simpa [Bool.and_eq_true,and_assoc] using htm
 have hb3:=tmB_t htm
 have hok:Hid (∀ wr w' m col',Below w.heap.size w wr → SpAt wr m (rawS t node h1 h2 h3) col' c9 → (∀ k,k < w.heap.size → col' k = col k) → (w.heap.size ≤ m.gd ∧ w.heap.size ≤ m.gf) → SpPost wr m col' c9 (newS t node h1 h2 h3) (.tuple #[]) (.returned (.tuple #[])) w' → Q (.returned (.tuple #[.pointer (some ⟨m.g,0,none⟩),.int .i64 0])) w'):=fun wr w' m col' hb hs hc hg hp=>by
  rw [← hQ]
  exact ⟨m,col',rfl,hc,hp.2.1,hb.trans (hp.2.2.toBelow (fun k hk e=>hcol k hk (by rw [← hc k hk]; exact e)) hb.size),hg⟩
 rw [hQ]
 clear hQ htm
 have ND:=fun W=>node_any t.n node (.slice A t.ov.length c) (.slice B t.ln.length d) rfl rfl W
 have hndt:ndB t.n node = true:=by unfold ndB; simp; omega
 simp only [hndt] at ND
 clear hndt
 replace TV:=Lib.hid TV
 replace ND:=Lib.hid ND
 replace ht':=Lib.hid ht'
 have c0:=S.c 1 0 rfl rfl
 have c1:=S.c 1 1 rfl rfl
 have c2:=S.c 1 2 rfl rfl
 go_enter Tryz.func7,Tryz.ntmps7
 go_wp2_with fail
 (with_reducible refine (TV.out).mono ?_)
 rintro e w1 ⟨rfl,hb⟩
 clear TV c0 c1 c2
 replace S:=S.call hb
 clear hb
 have sw:=fun W=>swithin_any 1 1 1073741824 W
 rw [show wiB 1 1 1073741824 = true by decide] at sw
 have c0:=S.c 0 0 rfl rfl
 have c1:=S.c 0 1 rfl rfl
 have c2:=S.c 0 2 rfl rfl
 have ix0:∀ W,(Instr.index 100 (.agg #[.int .i64 h1,.int .i64 h2,.int .i64 h3]) (.int .i64 0)).run Tryz.prog W = .ok (.int .i64 h1) W:=fun W=>by kernel_rfl
 have ix1:∀ W,(Instr.index 100 (.agg #[.int .i64 h1,.int .i64 h2,.int .i64 h3]) (.int .i64 1)).run Tryz.prog W = .ok (.int .i64 h2) W:=fun W=>by kernel_rfl
 have ix2:∀ W,(Instr.index 100 (.agg #[.int .i64 h1,.int .i64 h2,.int .i64 h3]) (.int .i64 2)).run Tryz.prog W = .ok (.int .i64 h3) W:=fun W=>by kernel_rfl
 have W1:=fun W=>swithin_any h1 1 65536 W
 have W2:=fun W=>swithin_any h2 1 65536 W
 have W3:=fun W=>swithin_any h3 1 65536 W
 rw [hw3.1] at W1
 rw [hw3.2.1] at W2
 rw [hw3.2.2] at W3
 clear hw3
 replace W1:=Lib.hid W1
 replace W2:=Lib.hid W2
 replace W3:=Lib.hid W3
 go_wp2_with fail
 (with_reducible refine (sw _).mono ?_)
 rintro e w2 ⟨rfl,rfl⟩
 clear sw
 go_wp2_with fail
 go_loop [30] (fun v30=>v30 = .int .i64 0 ∨ v30 = .int .i64 1 ∨ v30 = .int .i64 2 ∨ v30 = .int .i64 3) (fun v30=>3 - (intOf v30).toNat)
 case atStart=>exact .inl rfl
 case round =>
  rcases hrel with rfl | rfl | rfl | rfl
  ·go_wp2_with fail
   (with_reducible refine (W1.out _).mono ?_)
   rintro e w2 ⟨rfl,rfl⟩
   go_wp2_with fail
   go_round
   case rel=>exact .inr (.inl rfl)
   case measure=>decide
  ·go_wp2_with fail
   (with_reducible refine (W2.out _).mono ?_)
   rintro e w2 ⟨rfl,rfl⟩
   go_wp2_with fail
   go_round
   case rel=>exact .inr (.inr (.inl rfl))
   case measure=>decide
  ·go_wp2_with fail
   (with_reducible refine (W3.out _).mono ?_)
   rintro e w2 ⟨rfl,rfl⟩
   go_wp2_with fail
   go_round
   case rel=>exact .inr (.inr (.inr rfl))
   case measure=>decide
  ·clear W1 W2 W3 ix0 ix1 ix2
   clear c0 c1 c2
   have c0:=S.c 1 0 rfl rfl
   have c1:=S.c 1 1 rfl rfl
   have c2:=S.c 1 2 rfl rfl
   go_wp2_with fail
   (with_reducible refine (ND.out _).mono ?_)
   rintro e w2 ⟨rfl,hb⟩
   clear c0 c1 c2
   clear ND
   replace S:=S.call hb
   clear hb
   go_upto_region 11 with fail
   have hov:Hid (t.ov.length = 0 ∨ node.toNat < t.ov.length):=show _ ∨ _ by have:=hT.ov; have:=hT.n; omega
   have GC:=fun W (hb:Below w.heap.size w W)=>gclone2_any W _ t (ht'.out.below hb) (by have:=hT.ov; have:=hT.n; omega) (by have:=hT.ln; omega)
   have OV:=fun W (hb:Below w.heap.size w W)=>over_any W _ t (ht'.out.below hb) node.toNat node (by omega) hov.out (by have:=hT.ov; have:=hT.n; omega)
   have DN:=fun W=>dnew0_any W
   replace GC:=Lib.hid GC
   replace OV:=Lib.hid OV
   replace DN:=Lib.hid DN
   go_cut [12] (fun v12 wx=>N1b w2 t node h1 h2 h3 (ovB t node.toNat) v12 wx)
   case first =>
    have T:=S.drew
    clear S
    have c0:=T.c 1 0 rfl rfl
    have c1:=T.c 1 1 rfl rfl
    have c2:=T.c 1 2 rfl rfl
    have d0:=T.c 0 0 rfl rfl
    have d1:=T.c 0 1 rfl rfl
    have d2:=T.c 0 2 rfl rfl
    have tok1:True:=trivial
    have tok2:True:=trivial
    have tok3:True:=trivial
    have hz2:w2.heap.size ≤ w2.drew.heap.size:=Nat.le_refl _
    have hB2:Below w2.heap.size w2 w2.drew:=(Below.refl _ _).drew
    go_region_law
     (first
      | (clear tok1; rw [if_pos (by simp [Region.wanted])]; go_simp; (with_reducible refine (GC.out _ T.b).mono ?_); rintro e wa ⟨A5,c5,B5,d5,rfl,oO,oL,hba⟩; replace oO:=own_mono oO (Nat.zero_le _); replace oL:=own_mono oL (Nat.zero_le _); dsimp only; replace T:=T.call hba; replace hB2:=hB2.trans (hba.mono hB2.size); (try (replace hD:=hD.below hba)); clear hba; have c0:=T.c 1 0 rfl rfl; have c1:=T.c 1 1 rfl rfl; have c2:=T.c 1 2 rfl rfl; have d0:=T.c 0 0 rfl rfl; have d1:=T.c 0 1 rfl rfl; have d2:=T.c 0 2 rfl rfl)
      | (clear tok2; rw [if_pos (by simp [Region.wanted])]; go_simp; (with_reducible refine (OV.out _ T.b).mono ?_); rintro e wb ⟨rfl,hbb⟩; dsimp only; replace T:=T.call hbb; replace hB2:=hB2.trans (hbb.mono hB2.size); (try (replace hD:=hD.below hbb)); (try (replace oO:=own_below oO hbb)); (try (replace oL:=own_below oL hbb)); clear hbb; have c0:=T.c 1 0 rfl rfl; have c1:=T.c 1 1 rfl rfl; have c2:=T.c 1 2 rfl rfl; have d0:=T.c 0 0 rfl rfl; have d1:=T.c 0 1 rfl rfl; have d2:=T.c 0 2 rfl rfl)
      | (clear tok3; rw [if_pos (by simp [Region.wanted])]; go_simp; (with_reducible refine (DN.out _).mono ?_); rintro e wc ⟨gd,bd,rfl,hD,o1,o2,hbc⟩; dsimp only; replace T:=T.call hbc; replace o1:=Nat.le_trans hB2.size o1; replace hB2:=hB2.trans (hbc.mono hB2.size); (try (replace oO:=own_below oO hbc)); (try (replace oL:=own_below oL hbc)); clear hbc; have c0:=T.c 1 0 rfl rfl; have c1:=T.c 1 1 rfl rfl; have c2:=T.c 1 2 rfl rfl; have d0:=T.c 0 0 rfl rfl; have d1:=T.c 0 1 rfl rfl; have d2:=T.c 0 2 rfl rfl))
    all_goals
     have hN:=n1b_of hB2 hD o1 o2 t A5 c5 B5 d5 oO oL node h1 h2 h3 (ovB t node.toNat)
     replace hN:=Lib.hid hN
     clear hD o1 o2 hB2 oO oL
     go_wp2_with fail
     go_meet
     exact hN.out
   case rest =>
    obtain ⟨g,gd,bd,A5,c5,B5,d5,rfl,hB,hG,Y,hD,o1,o2,o3,o4⟩:=hcut
    have S3:=((S.call hB).addBx hG).keepBoxes [(g,[.int .i64 t.n,.slice A5 t.ov.length c5,.slice B5 t.ln.length d5,.int .i64 node,.int .i64 1,.int .i64 h1,.int .i64 h2,.int .i64 h3,.int .i64 0,.slice none 0 0,.bool (ovB t node.toNat),.slice none 0 0,.pointer (some ⟨gd,0,none⟩),.pointer none,.pointer none]),(w.heap.size,[.int .i64 t.n,.slice A t.ov.length c,.slice B t.ln.length d]),(w.heap.size + 1,[.int .i64 h1,.int .i64 h2,.int .i64 h3])] (by simp)
    have l1':w.heap.size + 1 < w2.heap.size:=(S.box 0 rfl).lt (by simp)
    have FN:=fun W=>Fd.fnew_any W h3 hb3.1 hb3.2
    have ON:=fun W=>onew2_any W node hn0.1 (by have:=hT.n; omega)
    unfold OrNew2 at ON
    replace FN:=Lib.hid FN
    replace ON:=Lib.hid ON
    clear GC OV DN S hB hG hov
    have c0:=S3.c 2 0 rfl rfl
    have c1:=S3.c 2 1 rfl rfl
    have c2:=S3.c 2 2 rfl rfl
    go_wp2_with fail
    (with_reducible refine (FN.out _).mono ?_)
    rintro e w3 ⟨rfl,hF,hb⟩
    clear c0 c1 c2
    clear FN
    replace S3:=S3.call hb
    replace hD:=hD.below hb
    replace Y:=Y.below hb
    have z3:=hb.size
    have hfl:=hF.lt
    clear hb
    generalize hbf:wc.heap.size = bf at *
    have i13:=S3.c 0 13 rfl rfl
    have f13:=S3.f 0 13 rfl rfl
    have S4:=S3.set 0 13 (.pointer (some ⟨bf + 1,0,none⟩)) rfl (by simp) (by omega) (by simp; omega) _ rfl
    have hs:=grownBy_set w3 g 13 (.pointer (some ⟨bf + 1,0,none⟩))
    have hD4:=hD.kept0 hs (by omega) (by omega)
    have hF4:=flat_kept0 hF hs (by omega) (by omega)
    have z4:=hs.size
    replace Y:=Y.set 13 (.pointer (some ⟨bf + 1,0,none⟩))
    clear hs hD hF S3
    go_wp2_with fail
    generalize w3.setCell ⟨g,13,none⟩ (.pointer (some ⟨bf + 1,0,none⟩)) = w4 at *
    clear i13 f13
    (with_reducible refine (ON.out _).mono ?_)
    rintro e w5 ⟨rfl,hO,tO,hb⟩
    clear ON
    replace S4:=S4.call hb
    replace hD4:=hD4.below hb
    replace hF4:=hF4.below hb
    replace Y:=Y.below hb
    have z5:=hb.size
    have hol:=hO.lt
    clear hb
    generalize hgo:w4.heap.size = go at *
    have i14:=S4.c 0 14 rfl rfl
    have f14:=S4.f 0 14 rfl rfl
    have S5:=S4.set 0 14 (.pointer (some ⟨go,0,none⟩)) rfl (by simp) (by omega) (by simp; omega) _ rfl
    have hs:=grownBy_set w5 g 14 (.pointer (some ⟨go,0,none⟩))
    have hD5:=hD4.kept0 hs (by omega) (by omega)
    have hF5:=flat_kept0 hF4 hs (by omega) (by omega)
    have hO5:=orat_kept hO hs (by omega)
    have z6:=hs.size
    replace tO:=(Eff.setCell (E:=fun k=>k = g) Y.tg (.inl rfl) rfl 14 (.pointer (some ⟨go,0,none⟩))).ty _ _ tO
    replace Y:=Y.set 14 (.pointer (some ⟨go,0,none⟩))
    have OU:=Lib.hid (out_any (w5.setCell ⟨g,14,none⟩ (.pointer (some ⟨go,0,none⟩))) _ t (ht'.out.below S5.b) node (by have:=hT.ln; omega))
    have c0:=S4.c 1 0 rfl rfl
    have c1:=S4.c 1 1 rfl rfl
    have c2:=S4.c 1 2 rfl rfl
    clear hs hD4 hF4 hO S4
    go_wp2_with fail
    generalize w5.setCell ⟨g,14,none⟩ (.pointer (some ⟨go,0,none⟩)) = w6 at *
    clear c0 c1 c2
    clear i14 f14
    (with_reducible refine (OU.out).mono ?_)
    rintro e w7 ⟨O,q5,rfl,ho,hb⟩
    clear OU
    replace S5:=S5.call hb
    replace Y:=Y.below hb
    replace tO:=TyPres.below hb _ _ tO
    have hN:NpAt w w7 g gd bd (bf + 1) bf go h3 (fun _=>0) node (.int .i64 t.n) (.slice A5 t.ov.length c5) (.slice B5 t.ln.length d5) (.int .i64 node) (.int .i64 1) (.int .i64 h1) (.int .i64 h2) (.int .i64 h3) (.int .i64 0) (ovB t node.toNat) (.int .i64 t.n) (.slice A t.ov.length c) (.slice B t.ln.length d) O (outs t node).length q5 (outs t node) [] none 0 :=
     ⟨S5.keepBoxes _ (by simp),World.ownsRow_nil _ _ _ _,own_mono ho (by omega),hD5.below hb,hF5.below hb,hO5.below hb,by have:=hb.size; omega⟩
    clear ho hb S5 hD5 hF5 hO5
    have hog:=outs_get t node
    have hol2:=outs_len t node
    have HD:=fun W (hb:Below w.heap.size w W) (i:Nat) (hi:i < 2 * t.ln.length)=>head_arc W _ t (ht'.out.below hb) i hi (by have:=hT.ln; omega)
    have CO:=fun W (hb:Below w.heap.size w W) (i:Nat) (hi:i < 2 * t.ln.length)=>cost_arc W _ t (ht'.out.below hb) i hi (by have:=hT.ln; omega)
    have hm256:=hT.ln
    have hn64:node ≤ 63:=by have:=hT.n; omega
    replace hT:=Lib.hid hT
    clear ht'
    replace hog:=Lib.hid hog
    replace HD:=Lib.hid HD
    replace CO:=Lib.hid CO
    obtain ⟨zs,hzs⟩:∃ zs,outs t node = zs:=⟨_,rfl⟩
    rw [hzs] at hog hol2 hN ⊢
    replace hzs:=Lib.hid hzs
    replace Y:=Lib.hid Y
    replace tO:=Lib.hid tO
    generalize hq:zs.length = q at *
    replace hq:=Lib.hid hq
    replace hbf:=Lib.hid hbf
    replace hgo:=Lib.hid hgo
    go_wp2_with fail
    have n1:w.heap.size < bd:=by omega
    have n4:g < bf:=by omega
    have n6:bf + 1 < go:=by omega
    have n0:go ≤ w7.heap.size:=Nat.le_of_lt hN.hgo
    have hq512:q ≤ 512:=by omega
    clear z3 z4 z5 z6 hfl hol o1 o4 l1'
    go_loopw [73] (fun v73 wr=>∃ (j:Nat) (ps:List Pt) (P:Option Addr) (cc:Nat),v73 = .int .i64 j ∧ j ≤ q ∧ Hid (ps = (zs.take j).map (ptI t)) ∧ Hid (NyAt wr g t A5 B5) ∧ Hid (Ty wr go 166) ∧ ps.length = j ∧ NpAt w wr g gd bd (bf + 1) bf go h3 (fun _=>0) node (.int .i64 t.n) (.slice A5 t.ov.length c5) (.slice B5 t.ln.length d5) (.int .i64 node) (.int .i64 1) (.int .i64 h1) (.int .i64 h2) (.int .i64 h3) (.int .i64 0) (ovB t node.toNat) (.int .i64 t.n) (.slice A t.ov.length c) (.slice B t.ln.length d) O q q5 zs ps P cc) (fun v73 _=>q - (intOf v73).toNat)
    case atStart=>exact ⟨0,[],none,0,rfl,by omega,Lib.hid (by simp),Y,tO,rfl,hN⟩
    case round =>
     clear hN n0 Y tO
     obtain ⟨j,ps,P,cc,rfl,hj,hpe,Y,tO,hps,N⟩:=hrel
     by_cases hjn:j < q
     ·obtain ⟨b9,o9,e9,hc9⟩:=rd_at (own_rdp N.out).1 (by simp only [List.length_map]; rw [hq.out]; omega)
      subst e9
      obtain ⟨i,ei,hi⟩:=hog.out j hjn
      obtain ⟨z,hz⟩:∃ z:Int,(i:Int) = z:=⟨_,rfl⟩
      have k9:=hc9 j (.int .i64 z) (by rw [List.getElem?_map,ei,hz]; rfl)
      have HDi:=fun W (hb:Below w.heap.size w W)=>HD.out W hb i hi
      have COi:=fun W (hb:Below w.heap.size w W)=>CO.out W hb i hi
      rw [hz] at HDi COi
      obtain ⟨l,hl⟩:∃ l,z.tdiv 2 = l:=⟨_,rfl⟩
      have hl0:0 ≤ l ∧ l ≤ 256:=by rw [← hl,Int.tdiv_eq_ediv_of_nonneg (by omega)]; omega
      obtain ⟨hl0,hl1⟩:=hl0
      have hpt:Hid (ptI t z = ⟨IntKind.i64.wrap l,hdI t.ln i,coI t.ln i⟩):=by
       have hw:IntKind.i64.wrap l = z / 2:=by
        rw [wrapI (by omega) (by omega),← hl,Int.tdiv_eq_ediv_of_nonneg (by omega)]
       unfold ptI
       rw [hw,← hz,Int.toNat_natCast]
       exact Lib.hid rfl
      have hnx:Hid ((zs.take (j + 1)).map (ptI t) = (zs.take j).map (ptI t) ++ [ptI t z]):=by
       obtain ⟨hj1,hj2⟩:=List.getElem?_eq_some_iff.1 ei
       rw [List.take_succ_eq_append_getElem hj1,List.map_append,hj2,hz]
       exact Lib.hid rfl
      generalize hdI t.ln i = hd at *
      generalize coI t.ln i = co at *
      replace HDi:=Lib.hid HDi
      replace COi:=Lib.hid COi
      clear hc9 ei HD CO
      replace hps:=Lib.hid hps
      replace hz:=Lib.hid hz
      go_upto_region 17 with fail
      replace N:=N.below (Below.refl _ _).drew
      replace Y:=Lib.hid (Y.out.below (Below.refl _ _).drew)
      have tO':Hid (Ty wr.drew go 166):=tO
      replace tO:=tO'
      clear tO'
      have i9:=N.S.c 0 9 rfl rfl
      have c0:=N.S.c 1 0 rfl rfl
      have c1:=N.S.c 1 1 rfl rfl
      have c2:=N.S.c 1 2 rfl rfl
      have tok1:True:=trivial
      have tok2:True:=trivial
      go_region_law
       (first
        | (clear tok1; rw [if_pos (by simp [Region.wanted])]; go_simp; (with_reducible refine (HDi.out _ N.S.b).mono ?_); rintro e wa ⟨rfl,hba⟩; dsimp only; replace N:=N.below hba; replace Y:=Lib.hid (Y.out.below hba); replace tO:=Lib.hid (TyPres.below hba _ _ tO.out); clear hba; have i9:=N.S.c 0 9 rfl rfl; have c0:=N.S.c 1 0 rfl rfl; have c1:=N.S.c 1 1 rfl rfl; have c2:=N.S.c 1 2 rfl rfl; have rd3:=Rd.lit wa #[.int .i64 (IntKind.i64.wrap l),.int .i64 hd,.int .i64 co,.int .i64 0,.int .i64 0,.int .i64 0] 118; have N3:=N.below (below_new' wa (.cells #[.int .i64 (IntKind.i64.wrap l),.int .i64 hd,.int .i64 co,.int .i64 0,.int .i64 0,.int .i64 0] 118)); have Y3:=Lib.hid (Y.out.below (below_new' wa (.cells #[.int .i64 (IntKind.i64.wrap l),.int .i64 hd,.int .i64 co,.int .i64 0,.int .i64 0,.int .i64 0] 118))); have tO3:=Lib.hid (TyPres.below (below_new' wa (.cells #[.int .i64 (IntKind.i64.wrap l),.int .i64 hd,.int .i64 co,.int .i64 0,.int .i64 0,.int .i64 0] 118)) _ _ tO.out); have i93:=N3.S.c 0 9 rfl rfl)
        | (clear tok2; rw [if_pos (by simp [Region.wanted])]; go_simp; (with_reducible refine (COi.out _ N.S.b).mono ?_); rintro e wa ⟨rfl,hba⟩; dsimp only; replace N:=N.below hba; replace Y:=Lib.hid (Y.out.below hba); replace tO:=Lib.hid (TyPres.below hba _ _ tO.out); clear hba; have i9:=N.S.c 0 9 rfl rfl; have c0:=N.S.c 1 0 rfl rfl; have c1:=N.S.c 1 1 rfl rfl; have c2:=N.S.c 1 2 rfl rfl; have rd3:=Rd.lit wa #[.int .i64 (IntKind.i64.wrap l),.int .i64 hd,.int .i64 co,.int .i64 0,.int .i64 0,.int .i64 0] 118; have N3:=N.below (below_new' wa (.cells #[.int .i64 (IntKind.i64.wrap l),.int .i64 hd,.int .i64 co,.int .i64 0,.int .i64 0,.int .i64 0] 118)); have Y3:=Lib.hid (Y.out.below (below_new' wa (.cells #[.int .i64 (IntKind.i64.wrap l),.int .i64 hd,.int .i64 co,.int .i64 0,.int .i64 0,.int .i64 0] 118))); have tO3:=Lib.hid (TyPres.below (below_new' wa (.cells #[.int .i64 (IntKind.i64.wrap l),.int .i64 hd,.int .i64 co,.int .i64 0,.int .i64 0,.int .i64 0] 118)) _ _ tO.out); have i93:=N3.S.c 0 9 rfl rfl)
        | (refine step_appG (o:=⟨some 92,_,_,_,_,_⟩) rfl ptT (.tmp 81) (.tmp 91) (by rfl) (go + 1) (by rfl) N3.own (m:=1) (by rfl) (by rfl) (show Rd _ _ (ptL ⟨IntKind.i64.wrap l,hd,co⟩) from rd3) (ptL_one ⟨IntKind.i64.wrap l,hd,co⟩) (by simp only [maxLen]; rw [hps.out]; omega) (by rw [hps.out]; omega) N3.hgo _ _ rfl rfl ?_; intro v6 w6 o6 hbel6 hg6; obtain ⟨P6,c6,rfl,_⟩:=own_rd o6; obtain ⟨S6,-⟩:=N3.mid n1 o2 o3 n4 (Nat.lt_succ_self _) n6 hg6; have N9:=N3.app (p:=⟨IntKind.i64.wrap l,hd,co⟩) n1 o2 o3 n4 (Nat.lt_succ_self _) n6 o6 hg6; have Y6:=Y3.out.app N3.own hg6; have tO6:=(Eff.setCell (E:=fun k=>k = g) Y6.tg (.inl rfl) rfl 9 (.slice P6 (ps.length + 1) c6)).ty _ _ (ty_app tO3.out N3.own (by decide) hg6); have Y9:=Lib.hid (Y6.set 9 (.slice P6 (ps.length + 1) c6)); have i69:=S6.c 0 9 rfl rfl; have f69:=S6.f 0 9 rfl rfl))
      all_goals
       replace N9:=Lib.hid N9
       replace tO6:=Lib.hid tO6
       have hpe9:Hid (ps ++ [⟨IntKind.i64.wrap l,hd,co⟩] = (zs.take (j + 1)).map (ptI t)):=Lib.hid (by rw [hnx.out,hpt.out,hpe.out])
       clear Y6 Y3 tO3 Y tO N3 rd3 i93 o6 S6 hbel6 hg6 HDi COi i9
       go_wp2_with fail
       go_round
       case rel=>exact ⟨j + 1,ps ++ [⟨IntKind.i64.wrap l,hd,co⟩],P6,c6,by go_num,by omega,hpe9,Y9,tO6,by simp [hps.out],N9.out⟩
       case measure=>simp [intOf]; omega
     ·have hjq:j = q:=by omega
      subst hjq
      have hpe2:ps = (outs t node).map (ptI t):=by
       rw [hpe.out,hzs.out,List.take_of_length_le (by rw [hq.out]; exact Nat.le_refl _)]
      rw [hpe2] at N
      have RA:=raw_at hT.out N Y.out tO.out n1 o2 o3 n4 n6 col c9 hc0
      have hlenr:(rawS t node h1 h2 h3).ps.length ≤ 512:=by
       have:(rawS t node h1 h2 h3).ps.length = ps.length:=by rw [hpe2]; simp [rawS]
       omega
      have hsz:=setP_sz (rawS t node h1 h2 h3).x (rawS t node h1 h2 h3).md (conS (rawS t node h1 h2 h3)) (n:=1000000) (k:=1000000) (by simp [rawS]) (by have:=adjS_len (rawS t node h1 h2 h3).ps; simp only [conS]; omega) (by simp [rawS]) (by simp [conS,rawS])
      have OR:=originate_any wr _ _ _ c9 RA hlenr (by simp [rawS]) (by simp [rawS]) (by simp [rawS]) hsz.1 hsz.2
      have hf:=fun w' (hp:SpPost wr _ _ c9 (origS (rawS t node h1 h2 h3)) (.tuple #[]) (.returned (.tuple #[])) w')=>hok.out wr w' _ _ N.S.b RA (fun k hk=>if_pos hk) ⟨by simp only; omega,by simp only; omega⟩ hp
      replace OR:=Lib.hid OR
      replace hf:=Lib.hid hf
      clear hog HD CO hok N RA hsz hlenr hpe2 hpe
      replace hps:=Lib.hid hps
      go_wp2_with fail
      (with_reducible refine (OR.out).mono ?_)
      rintro e w9 P9
      obtain ⟨rfl,P8⟩:=P9
      have hf9:=hf.out w9 ⟨rfl,P8⟩
      clear hf OR P8
      go_wp2_with fail
      (first | exact hf9 | (go_ret2; exact hf9))
end Go.Proofs.YtehimhbgakpenaaGreat
