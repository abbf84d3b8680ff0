/-
  The texts TpC, Sp5, Sp6, Sp7, one after the other.
-/
import Derived.Test.YtehimhbgakpenaaGreatQPWith7
import Derived.Deep.DeepCutAuto
import Derived.Test.YtehimhbgakpenaaGreatQPWith25
import Derived.Test.YtehimhbgakpenaaGreatQPWith26
import Derived.Deep.RegionHeld3
import Derived.Test.YtehimhbgakpenaaGreatQPWith23
namespace Go.Proofs.YtehimhbgakpenaaGreat
set_option linter.unusedVariables false
open Go.RowKit Go.Sort
theorem St.set3 {W w:World} {g:Nat} {bs:List (Nat × List Value)} {rs:List (Option Addr × List Value)} {a0 a1 a2:Value} (S:St W w ((g,[a0,a1,a2]) :: bs) rs) (v0 v1 v2:Value) (hg:W.heap.size ≤ g) (hd:∀ x ∈ bs,x.1 ≠ g) :
  St W (((w.setCell ⟨g,0,none⟩ v0).setCell ⟨g,1,none⟩ v1).setCell ⟨g,2,none⟩ v2) ((g,[v0,v1,v2]) :: bs) rs :=
 ((S.set 0 0 v0 rfl (by simp) hg hd _ rfl).set 0 1 v1 rfl (by simp) hg hd _ rfl).set 0 2 v2 rfl (by simp) hg hd _ rfl
theorem own_set3 {w:World} {base:Nat} {e:TypeId} {size:Nat} {v:Value} {n:Nat} {xs:List Value} (h:w.ownsRow base e size v n xs) {g:Nat} (hg:g < base) (u0 u1 u2:Value) :
  (((w.setCell ⟨g,0,none⟩ u0).setCell ⟨g,1,none⟩ u1).setCell ⟨g,2,none⟩ u2).ownsRow base e size v n xs :=
 ownsRow_setCell_below (a:=⟨g,2,none⟩) (ownsRow_setCell_below (a:=⟨g,1,none⟩) (ownsRow_setCell_below (a:=⟨g,0,none⟩) h hg _) hg _) hg _
theorem own_box {w:World} {base:Nat} {e:TypeId} {size:Nat} {A:Option Addr} {n c:Nat} {xs:List Value} (h:w.ownsRow base e size (.slice A n c) n xs) (hn:0 < n):∃ g,A = some ⟨g,0,none⟩ ∧ base ≤ g ∧ g < w.heap.size ∧ Box w g xs:=by
 have h0:=h
 rcases h.2 with ⟨h2,h3⟩ | ⟨g,cap,cur,h2,hgb,hh,r⟩
 ·omega
 ·injection h2 with h2 _ h4
  subst h2 h4
  refine ⟨g,rfl,hgb,(h0.lt g rfl).2,fun i u hu=>?_⟩
  have hc:=h0.cells (g:=g) rfl i u hu
  rw [show (⟨g,0,none⟩:Addr).add i = ⟨g,i,none⟩ by unfold Addr.add; split <;> simp_all] at hc
  exact ⟨hc,frozen_of_row w g i cur e hh⟩
def GClPost (w:World) (t:Tp) (e:Ending) (w':World):Prop :=
 ∃ A c B d,e = .returned (tpV t.n A t.ov.length c B t.ln.length d) ∧ w'.ownsRow w.heap.size 79 7 (.slice B t.ln.length d) t.ln.length (lksV t.ln) ∧ Below w.heap.size w w'
set_option maxRecDepth 100000 in
set_option maxHeartbeats 3200000 in
theorem gclone_any (w:World) (v:Value) (t:Tp) (h:TpAt w v t) (h1:t.ov.length ≤ 1000000) (h2:t.ln.length ≤ 1000000):Calls Tryz.prog 33 #[v] w (GClPost w t):=by
 obtain ⟨A,c,B,d,rfl,rA,rB,h3,h4⟩:=h
 have S:=((((St.start w).read rB).read rA).new' #[.int .i64 t.n,.slice A t.ov.length c,.slice B t.ln.length d] 25 w.heap.size _ rfl rfl).new' #[.int .i64 0,.slice none 0 0,.slice none 0 0] 25 (w.heap.size + 1) _ (by simp) rfl
 have C1:=fun W (h:Rd W A (boV t.ov))=>clone_bo W A _ c t.ov h rfl h1
 have C2:=fun W (h:Rd W B (lksV t.ln))=>clone_lk W B _ d t.ln h rfl h2
 unfold ClonePost at C1 C2
 unfold GClPost
 replace C1:=Lib.hid C1
 replace C2:=Lib.hid C2
 clear rA rB h1 h2 h3 h4
 generalize t.ov.length = k at *
 generalize t.ln.length = m at *
 generalize t.n = n at *
 have a0:=S.c 1 0 rfl rfl
 have a1:=S.c 1 1 rfl rfl
 have a2:=S.c 1 2 rfl rfl
 go_enter Tryz.func33,Tryz.ntmps33
 go_wp2_with fail
 (with_reducible refine (C1.out _ (S.r 0 rfl)).mono ?_)
 rintro e w1 ⟨A1,c1,rfl,o1,hb⟩
 clear a0 a1 a2 C1
 replace S:=S.call hb
 clear hb o1
 have a0:=S.c 1 0 rfl rfl
 have a1:=S.c 1 1 rfl rfl
 have a2:=S.c 1 2 rfl rfl
 have f0:=S.f 1 0 rfl rfl
 have f1:=S.f 1 1 rfl rfl
 have f2:=S.f 1 2 rfl rfl
 have S2:=S.set 1 1 (.slice A1 k c1) rfl (by simp) (Nat.le_refl _) (by simp) _ rfl
 have hsz:=S2.b.size
 have hlt:=(S2.box 0 rfl).lt (by simp)
 go_wp2_with fail
 generalize w1.setCell ⟨w.heap.size,1,none⟩ (.slice A1 k c1) = w2 at *
 (with_reducible refine (C2.out _ (S2.r 1 rfl)).mono ?_)
 rintro e w3 ⟨B1,d1,rfl,o2,hb⟩
 clear a0 a1 a2 f0 f1 f2 C2 S
 replace S2:=S2.call hb
 clear hb
 have a0:=S2.c 1 0 rfl rfl
 have a1:=S2.c 1 1 rfl rfl
 have a2:=S2.c 1 2 rfl rfl
 have f0:=S2.f 1 0 rfl rfl
 have f1:=S2.f 1 1 rfl rfl
 have f2:=S2.f 1 2 rfl rfl
 have r0:=S2.c 0 0 rfl rfl
 have r1:=S2.c 0 1 rfl rfl
 have r2:=S2.c 0 2 rfl rfl
 have q0:=S2.f 0 0 rfl rfl
 have q1:=S2.f 0 1 rfl rfl
 have q2:=S2.f 0 2 rfl rfl
 have S9:=(S2.set 1 2 (.slice B1 m d1) rfl (by simp) (Nat.le_refl _) (by simp) _ rfl).set3 (.int .i64 n) (.slice A1 k c1) (.slice B1 m d1) (by omega) (by simp)
 have o4:=own_set3 (ownsRow_setCell_below (a:=⟨w.heap.size,2,none⟩) o2 (by simp only; omega) (.slice B1 m d1)) (g:=w.heap.size + 1) (by omega) (.int .i64 n) (.slice A1 k c1) (.slice B1 m d1)
 have hf:=own_mono o4 (base:=w.heap.size) (by omega)
 have hb9:=S9.b
 go_wp2_with fail
 exact bodyPost_ret (v:=tpV n A1 k c1 B1 m d1) (by simp [results,Tryz.results33,go_sem,r0,r1,r2]) rfl ⟨_,_,_,_,rfl,hf,hb9⟩
end Go.Proofs.YtehimhbgakpenaaGreat

namespace Go.Proofs.YtehimhbgakpenaaGreat
set_option linter.unusedVariables false
open Go.RowKit Go.Maps Go.Sort
def tmB (h1 h2 h3:Int):Bool:=wiB h1 1 65536 && (wiB h2 1 65536 && wiB h3 1 65536)
theorem grownBy_none {w w':World} (h:w.grownBy w' none) (k:Nat):w.grownBy w' (some k):=⟨h.os,h.tape,h.output,h.size,fun j hj _=>h.block j hj (by simp)⟩
theorem orat_kept {w w':World} {go k:Nat} {node:Int} (h:OrAt w go ⟨node,0,0,false,[],[]⟩ false) (hg:w.grownBy w' (some k)) (hne:go ≠ k):OrAt w' go ⟨node,0,0,false,[],[]⟩ false:=by
 obtain ⟨A,c,B,d,h0,h1,h2,h3⟩:=h
 exact ⟨A,c,B,d,h0.kept hg (by intro e; injection e; contradiction) (by simp),Rd.nil _ _,Rd.nil _ _,h3⟩
structure NpAt (w wr:World) (g gd bd gf bf go:Nat) (iv:Int) (f:Nat → Nat) (node:Int) (u0 u1 u2 u3 u4 u5 u6 u7 u8:Value) (ov:Bool) (T0 T1 T2:Value) (O:Option Addr) (q d:Nat) (zs:List Int) (ps:List Pt) (P:Option Addr) (c:Nat):Prop where
 S:St w wr [(g,[u0,u1,u2,u3,u4,u5,u6,u7,u8,.slice P ps.length c,.bool ov,.slice none 0 0,.pointer (some ⟨gd,0,none⟩),.pointer (some ⟨gf,0,none⟩),.pointer (some ⟨go,0,none⟩)]),(w.heap.size,[T0,T1,T2])] []
 own:wr.ownsRow (go + 1) 118 6 (.slice P ps.length c) ps.length (ptV ps)
 out:wr.ownsRow (go + 1) 3 1 (.slice O q d) q (zs.map iV)
 db:DbAt wr gd bd Db0
 fl:Fd.FlAt wr gf bf iv Fn0 f
 org:OrAt wr go ⟨node,0,0,false,[],[]⟩ false
 hgo:go < wr.heap.size
section
variable {w wr w':World} {g gd bd gf bf go:Nat} {iv:Int} {f:Nat → Nat} {node:Int} {u0 u1 u2 u3 u4 u5 u6 u7 u8:Value} {ov:Bool} {T0 T1 T2:Value} {O:Option Addr} {q d:Nat} {zs:List Int} {ps:List Pt} {P:Option Addr} {c:Nat}
theorem NpAt.below (h:NpAt w wr g gd bd gf bf go iv f node u0 u1 u2 u3 u4 u5 u6 u7 u8 ov T0 T1 T2 O q d zs ps P c) (hb:Below wr.heap.size wr w'):NpAt w w' g gd bd gf bf go iv f node u0 u1 u2 u3 u4 u5 u6 u7 u8 ov T0 T1 T2 O q d zs ps P c :=
 ⟨h.S.call hb,own_below h.own hb,own_below h.out hb,h.db.below hb,h.fl.below hb,h.org.below hb,Nat.lt_of_lt_of_le h.hgo hb.size⟩
theorem NpAt.mid (h:NpAt w wr g gd bd gf bf go iv f node u0 u1 u2 u3 u4 u5 u6 u7 u8 ov T0 T1 T2 O q d zs ps P c)
  (o1:w.heap.size < bd) (o2:bd < gd) (o3:gd < g) (o4:g < bf) (o5:bf < gf) (o6:gf < go) (hg:wr.grownBy w' (Value.slice P ps.length c).ownBlock) :
  St w w' [(g,[u0,u1,u2,u3,u4,u5,u6,u7,u8,.slice P ps.length c,.bool ov,.slice none 0 0,.pointer (some ⟨gd,0,none⟩),.pointer (some ⟨gf,0,none⟩),.pointer (some ⟨go,0,none⟩)]),(w.heap.size,[T0,T1,T2])] [] ∧ ∃ k,go + 1 ≤ k ∧ wr.grownBy w' (some k):=by
 have hk:∃ k,go + 1 ≤ k ∧ wr.grownBy w' (some k):=by
  rcases h.own.2 with ⟨e,_⟩ | ⟨k,cap,cur,e,hkb,_⟩
  ·rw [e] at hg; exact ⟨go + 1,Nat.le_refl _,grownBy_none hg _⟩
  ·rw [e] at hg; exact ⟨k,hkb,hg⟩
 obtain ⟨k,hk,hgk⟩:=hk
 have hsw:=h.S.b.size
 refine ⟨⟨h.S.b.trans (grownBy_below hgk (by omega) (by omega)),fun i x hx=>?_,by simp⟩,k,hk,hgk⟩
 have hb:=h.S.bx i x hx
 match i,hx with
 | 0,hx=>simp at hx; subst hx; exact hb.kept hgk (by simp only [ne_eq,Option.some.injEq]; omega) (by simp)
 | 1,hx=>simp at hx; subst hx; exact hb.kept hgk (by simp only [ne_eq,Option.some.injEq]; omega) (by simp)
theorem NpAt.app (h:NpAt w wr g gd bd gf bf go iv f node u0 u1 u2 u3 u4 u5 u6 u7 u8 ov T0 T1 T2 O q d zs ps P c) {p:Pt} {P':Option Addr} {c':Nat}
  (o1:w.heap.size < bd) (o2:bd < gd) (o3:gd < g) (o4:g < bf) (o5:bf < gf) (o6:gf < go)
  (ho:w'.ownsRow (go + 1) 118 6 (.slice P' (ps.length + 1) c') (ps.length + 1) (ptV ps ++ ptL p)) (hg:wr.grownBy w' (Value.slice P ps.length c).ownBlock) :
  NpAt w (w'.setCell ⟨g,9,none⟩ (.slice P' (ps.length + 1) c')) g gd bd gf bf go iv f node u0 u1 u2 u3 u4 u5 u6 u7 u8 ov T0 T1 T2 O q d zs (ps ++ [p]) P' c':=by
 obtain ⟨hS,k,hk,hgk⟩:=h.mid o1 o2 o3 o4 o5 o6 hg
 have hout:=own_rowNe h.out hg (own_ne h.out h.own (by decide))
 have hsw:=h.S.b.size
 have hdb:=h.db.kept0 hgk (by omega) (by omega)
 have hfl:=flat_kept0 h.fl hgk (by omega) (by omega)
 have horg:=orat_kept h.org hgk (by omega)
 have hs:=grownBy_set w' g 9 (.slice P' (ps.length + 1) c')
 have el:(ps ++ [p]).length = ps.length + 1:=by simp
 refine ⟨hS.set 0 9 _ rfl (by simp) (by omega) (by simp; omega) _ (by rw [el]; rfl),?_,?_,hdb.kept0 hs (by omega) (by omega),flat_kept0 hfl hs (by omega) (by omega),orat_kept horg hs (by omega),?_⟩
 ·rw [el,ptV_append]
  have:=ownsRow_setCell_below (a:=⟨g,9,none⟩) ho (by simp only; omega) (.slice P' (ps.length + 1) c')
  simpa [ptV] using this
 ·exact ownsRow_setCell_below (a:=⟨g,9,none⟩) hout (by simp only; omega) _
 ·have:=hgk.size
  have:=h.hgo
  have:=hs.size
  omega
end
def DnPost (w:World) (e:Ending) (w':World):Prop :=
 ∃ gd bd,e = .returned (.pointer (some ⟨gd,0,none⟩)) ∧ DbAt w' gd bd Db0 ∧ w.heap.size ≤ bd ∧ bd < gd ∧ Below w.heap.size w w'
theorem dnew0_any (w:World):Calls Tryz.prog 35 #[] w (DnPost w) :=
 (dnew_any w).mono fun e w' ⟨h1,h2,h3⟩=>⟨_,_,h1,h2,Nat.le_refl _,Nat.lt_succ_self _,h3⟩
def N1 (w2:World) (node boot h1 h2 h3:Int) (ov:Bool) (v12:Value) (wx:World):Prop :=
 ∃ g gd bd u0 u1 u2,v12 = .pointer (some ⟨g,0,none⟩) ∧ Below w2.heap.size w2 wx ∧ Box wx g [u0,u1,u2,.int .i64 node,.int .i64 boot,.int .i64 h1,.int .i64 h2,.int .i64 h3,.int .i64 0,.slice none 0 0,.bool ov,.slice none 0 0,.pointer (some ⟨gd,0,none⟩),.pointer none,.pointer none] ∧ DbAt wx gd bd Db0 ∧ w2.heap.size ≤ bd ∧ bd < gd ∧ gd < g ∧ g < wx.heap.size
theorem St.addBx {W w:World} {bs:List (Nat × List Value)} {rs:List (Option Addr × List Value)} {g:Nat} {cs:List Value} (S:St W w bs rs) (h:Box w g cs):St W w ((g,cs) :: bs) rs :=
 ⟨S.b,fun i x hx=>by
  cases i with
  | zero=>simp at hx; subst hx; exact h
  | succ i=>exact S.bx i x (by simpa using hx),S.rd⟩
theorem outs_len (t:Tp) (z:Int):(outs t z).length ≤ 2 * t.ln.length:=outK_len _ _ _
def hdI (l:List Lk) (i:Nat):Int:=match l[i / 2]? with | some x=>tailL x (!decide (i % 2 = 1)) | none=>-1
def coI (l:List Lk) (i:Nat):Int:=match l[i / 2]? with | some x=>costL x (decide (i % 2 = 1)) | none=>-1
theorem head_arc (w:World) (v:Value) (t:Tp) (h:TpAt w v t) (i:Nat) (hi:i < 2 * t.ln.length) (hm:t.ln.length ≤ 256):Calls Tryz.prog 39 #[v,.int .i64 (i:Int)] w fun e w'=>e = .returned (.int .i64 (hdI t.ln i)) ∧ Below w.heap.size w w':=by
 have:=head_any w v t h (i / 2) (decide (i % 2 = 1)) (by omega) hm
 rw [arc_of] at this
 have e:hdI t.ln i = tailL t.ln[i / 2] (!decide (i % 2 = 1)):=by unfold hdI; rw [List.getElem?_eq_getElem (by omega)]
 rw [e]; exact this
theorem cost_arc (w:World) (v:Value) (t:Tp) (h:TpAt w v t) (i:Nat) (hi:i < 2 * t.ln.length) (hm:t.ln.length ≤ 256):Calls Tryz.prog 40 #[v,.int .i64 (i:Int)] w fun e w'=>e = .returned (.int .i64 (coI t.ln i)) ∧ Below w.heap.size w w':=by
 have:=cost_any w v t h (i / 2) (decide (i % 2 = 1)) (by omega) hm
 rw [arc_of] at this
 have e:coI t.ln i = costL t.ln[i / 2] (decide (i % 2 = 1)):=by unfold coI; rw [List.getElem?_eq_getElem (by omega)]
 rw [e]; exact this
theorem tmB_t {a b c:Int} (h:tmB a b c = true):1 ≤ c ∧ c ≤ 65536:=by
 simp only [tmB,wiB,Bool.and_eq_true,decide_eq_true_eq] at h; omega
theorem outs_get (t:Tp) (z:Int) (j:Nat) (hj:j < (outs t z).length):∃ i:Nat,(outs t z)[j]? = some (i:Int) ∧ i < 2 * t.ln.length:=by
 have hm:=List.getElem_mem hj
 unfold outs outK at hm
 obtain ⟨i,hi,e⟩:=List.mem_map.1 hm
 exact ⟨i,by rw [List.getElem?_eq_getElem hj,e]; rfl,by have:=(List.mem_filter.1 hi).1; simpa using this⟩
theorem ptT:ElemT Tryz.prog 105 118 (.agg #[.int .i64 0,.int .i64 0,.int .i64 0,.int .i64 0,.int .i64 0,.int .i64 0]) 6 48:=⟨Tryz.underlying105,by kernel_rfl,rfl,by omega⟩
theorem ptL_one (p:Pt):∀ u ∈ ptL p,u.oneCell' = true:=by
 intro u hu
 simp only [ptL,List.mem_cons,List.not_mem_nil,or_false] at hu
 rcases hu with rfl | rfl | rfl | rfl | rfl | rfl <;> rfl
end Go.Proofs.YtehimhbgakpenaaGreat

namespace Go.Proofs.YtehimhbgakpenaaGreat
set_option linter.unusedVariables false
open Go.RowKit Go.Maps Go.Sort
end Go.Proofs.YtehimhbgakpenaaGreat

namespace Go.Proofs.YtehimhbgakpenaaGreat
set_option linter.unusedVariables false
open Go.RowKit Go.Maps Go.Sort
end Go.Proofs.YtehimhbgakpenaaGreat
