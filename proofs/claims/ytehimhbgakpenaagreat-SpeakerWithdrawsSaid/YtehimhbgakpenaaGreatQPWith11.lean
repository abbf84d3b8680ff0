/-
  The texts EncS, EncP, CodE, one after the other.
-/
import Derived.Test.YtehimhbgakpenaaGreatQPWith5
import Derived.Test.YtehimhbgakpenaaGreatQPWith3
import Derived.Test.YtehimhbgakpenaaGreatQPWith1
namespace Go.Proofs.YtehimhbgakpenaaGreat
set_option linter.unusedVariables false
open Go.RowKit
theorem recT:ElemT Tryz.prog 211 215 (.agg #[.int .i64 0,.slice none 0 0]) 2 32:=⟨Tryz.underlying211,by kernel_rfl,rfl,by omega⟩
def Far (v:Value) (bs:List (Nat × List Value)):Prop:=∀ x ∈ bs,v.ownBlock ≠ some x.1
abbrev rcv (r:Rc):Value:=.slice r.A r.n r.c
structure EncC (W w:World) (g1 g2:Nat) (bs:List (Nat × List Value)) (rd:List (Option Addr × List Value)) (v:Value) (rs:List Rc):Prop where
 S:St W w ((g1,[v]) :: (g2,[.int .i64 0]) :: bs) rd
 own:w.ownsRow W.heap.size 215 2 v rs.length (recV rs)
 recs:∀ r ∈ rs,RcOwn w W.heap.size 5 r
 far:Far v ((g1,[v]) :: (g2,[.int .i64 0]) :: bs)
 rfar:∀ r ∈ rs,Far (rcv r) ((g1,[v]) :: (g2,[.int .i64 0]) :: bs)
 lo1:W.heap.size ≤ g1
 lo2:W.heap.size ≤ g2
 ne:g1 ≠ g2
 neb:∀ x ∈ bs,x.1 ≠ g1 ∧ x.1 ≠ g2
 pos:∀ x ∈ bs,0 < x.2.length
def EncS (W w:World) (g1 g2:Nat) (bs:List (Nat × List Value)) (rd:List (Option Addr × List Value)) (l:List Rec):Prop :=
 ∃ v rs,EncC W w g1 g2 bs rd v rs ∧ rs.map dat = l
section
variable {W w w':World} {g1 g2:Nat} {bs:List (Nat × List Value)} {rd:List (Option Addr × List Value)} {v:Value} {rs:List Rc} {l:List Rec}
theorem own_lt2 {w:World} {base:Nat} {e:TypeId} {size:Nat} {v:Value} {n:Nat} {xs:List Value} (h:w.ownsRow base e size v n xs) {g:Nat} (hg:w.heap.size ≤ g):v.ownBlock ≠ some g:=fun e=>by
 have:=(h.lt g e).2
 omega
theorem EncC.call (h:EncC W w g1 g2 bs rd v rs) (hb:Below w.heap.size w w'):EncC W w' g1 g2 bs rd v rs :=
 { h with S:=h.S.call hb,own:=own_below h.own hb,recs:=fun r hr=>(h.recs r hr).below hb }
theorem EncS.call (h:EncS W w g1 g2 bs rd l) (hb:Below w.heap.size w w'):EncS W w' g1 g2 bs rd l:=by
 obtain ⟨v,rs,h,e⟩:=h
 exact ⟨v,rs,h.call hb,e⟩
theorem EncS.start (h:St W w bs rd) (hp:∀ x ∈ bs,0 < x.2.length) (t1 t2:TypeId):EncS W ((w.alloc (.cells #[.slice none 0 0] t1)).alloc (.cells #[.int .i64 0] t2)) w.heap.size (w.heap.size + 1) bs rd []:=by
 have S2:=(h.new' #[.slice none 0 0] t1 w.heap.size _ rfl rfl).new' #[.int .i64 0] t2 (w.heap.size + 1) _ (by simp) rfl
 have lb:∀ x ∈ bs,x.1 < w.heap.size:=fun x hx=>by
  obtain ⟨i,hi,he⟩:=List.getElem_of_mem hx
  exact (h.bx i x (by simp [List.getElem?_eq_getElem hi,he])).lt (hp x hx)
 have hsz:=h.b.size
 refine ⟨.slice none 0 0,[],⟨⟨S2.b,fun i x hx=>?_,S2.rd⟩,World.ownsRow_nil _ _ _ _,by simp,fun x hx=>by simp [Value.ownBlock],by simp,hsz,by omega,by omega,fun x hx=>by have:=lb x hx; omega,hp⟩,rfl⟩
 rcases i with _ | _ | i
 ·simp at hx; subst hx
  exact S2.box 1 rfl
 ·simp at hx; subst hx
  exact S2.box 0 rfl
 ·exact S2.bx (i + 2) x (by simpa using hx)
theorem EncS.new (h:EncS W w g1 g2 bs rd l) (cs:Array Value) (t:TypeId) (hc:0 < cs.size):EncS W (w.alloc (.cells cs t)) g1 g2 ((w.heap.size,cs.toList) :: bs) rd l:=by
 obtain ⟨v,rs,h,e⟩:=h
 have h1:=h.call (below_new' w (.cells cs t))
 have l1:=(h.S.box 0 rfl).lt (by simp)
 have l2:=(h.S.box 1 rfl).lt (by simp)
 refine ⟨v,rs,{ h1 with S:=?_,far:=?_,rfar:=?_,neb:=?_,pos:=?_ },e⟩
 ·refine ⟨h1.S.b,fun i x hx=>?_,h1.S.rd⟩
  rcases i with _ | _ | _ | i
  ·simp at hx; subst hx; exact h1.S.box 0 rfl
  ·simp at hx; subst hx; exact h1.S.box 1 rfl
  ·simp at hx; subst hx; exact Box.new w cs t
  ·exact h1.S.bx (i + 2) x (by simpa using hx)
 ·intro x hx
  simp only [List.mem_cons] at hx
  rcases hx with rfl | rfl | rfl | hx
  ·exact h.far _ (by simp)
  ·exact h.far _ (by simp)
  ·exact own_lt2 h.own (Nat.le_refl _)
  ·exact h.far x (by simp [hx])
 ·intro r hr x hx
  simp only [List.mem_cons] at hx
  rcases hx with rfl | rfl | rfl | hx
  ·exact h.rfar r hr _ (by simp)
  ·exact h.rfar r hr _ (by simp)
  ·exact own_lt2 (h.recs r hr) (Nat.le_refl _)
  ·exact h.rfar r hr x (by simp [hx])
 ·intro x hx
  rcases List.mem_cons.1 hx with rfl | hx
  ·constructor
   ·simp only; omega
   ·simp only; omega
  ·exact h.neb x hx
 ·intro x hx
  rcases List.mem_cons.1 hx with rfl | hx
  ·simpa using hc
  ·exact h.pos x hx
theorem EncS.drop (h:EncS W w g1 g2 bs rd l) (bs':List (Nat × List Value)) (hs:∀ x ∈ bs',x ∈ bs):EncS W w g1 g2 bs' rd l:=by
 obtain ⟨v,rs,h,e⟩:=h
 have hm:∀ x ∈ (g1,[v]) :: (g2,[.int .i64 0]) :: bs',x ∈ (g1,[v]) :: (g2,[.int .i64 0]) :: bs:=by
  intro x hx
  simp only [List.mem_cons] at hx ⊢
  rcases hx with hx | hx | hx
  ·exact .inl hx
  ·exact .inr (.inl hx)
  ·exact .inr (.inr (hs x hx))
 exact ⟨v,rs,{ h with S:=h.S.keepBoxes _ hm,far:=fun x hx=>h.far x (hm x hx),rfar:=fun r hr x hx=>h.rfar r hr x (hm x hx),neb:=fun x hx=>h.neb x (hs x hx),pos:=fun x hx=>h.pos x (hs x hx) },e⟩
theorem EncS.c (h:EncS W w g1 g2 bs rd l) (i j:Nat) {g:Nat} {cs:List Value} {u:Value} (hi:bs[i]? = some (g,cs)) (hj:cs[j]? = some u):w.cell? ⟨g,j,none⟩ = some u:=by
 obtain ⟨v,rs,h,e⟩:=h
 exact h.S.c (i + 2) j (by simpa using hi) hj
theorem EncS.r (h:EncS W w g1 g2 bs rd l) (i:Nat) {A:Option Addr} {xs:List Value} (hi:rd[i]? = some (A,xs)):Rd w A xs:=by
 obtain ⟨v,rs,h,e⟩:=h
 exact h.S.r i hi
theorem EncS.b (h:EncS W w g1 g2 bs rd l):Below W.heap.size W w:=by
 obtain ⟨v,rs,h,e⟩:=h
 exact h.S.b
theorem EncC.begun (h:EncC W w g1 g2 bs rd v rs) (kind:Int) {v':Value} (hown:w'.ownsRow W.heap.size 215 2 v' (rs.length + 1) (recV rs ++ [.int .i64 kind,.slice none 0 0]))
  (hg:w.grownBy w' v.ownBlock) (hv:v'.ownBlock = v.ownBlock ∨ v'.ownBlock = some w.heap.size):EncC W (w'.setCell ⟨g1,0,none⟩ v') g1 g2 bs rd v' (rs ++ [⟨kind,none,0,0,[]⟩]):=by
 have l1:=(h.S.box 0 rfl).lt (by simp)
 have l2:=(h.S.box 1 rfl).lt (by simp)
 have lb:∀ x ∈ bs,x.1 < w.heap.size:=fun x hx=>by
  obtain ⟨i,hi,he⟩:=List.getElem_of_mem hx
  exact (h.S.bx (i + 2) x (by simp [List.getElem?_eq_getElem hi,he])).lt (h.pos x hx)
 have hfar:∀ g,g < w.heap.size → v.ownBlock ≠ some g → v'.ownBlock ≠ some g:=by
  intro g hlt hn e
  rcases hv with hv | hv
  ·exact hn (hv ▸ e)
  ·rw [hv] at e; injection e with e; omega
 have f1:=h.far (g1,[v]) (by simp)
 have f2:=h.far (g2,[.int .i64 0]) (by simp)
 have k1:Box w' g1 [v]:=(h.S.box 0 rfl).kept hg (fun e=>f1 e.symm) (by simp)
 have k2:Box w' g2 [.int .i64 0]:=(h.S.box 1 rfl).kept hg (fun e=>f2 e.symm) (by simp)
 have hbel:Below W.heap.size W w':=below_own h.S.b h.own hg (Nat.le_refl _) h.S.b.size
 refine ⟨⟨hbel.setCell (p:=⟨g1,0,none⟩) h.lo1 _,?_,h.S.rd⟩,?_,?_,?_,?_,h.lo1,h.lo2,h.ne,h.neb,h.pos⟩
 ·intro i x hx
  rcases i with _ | _ | i
  ·simp at hx; subst hx
   exact k1.set 0 v' (by simp)
  ·simp at hx; subst hx
   exact k2.far _ (by simpa using h.ne)
  ·have hx':bs[i]? = some x:=by simpa using hx
   have hm:=List.mem_of_getElem? hx'
   have:=h.S.bx (i + 2) x (by simpa using hx)
   exact (this.kept hg (fun e=>h.far x (by simp [hm]) e.symm) (h.pos x hm)).far _ (fun e=>(h.neb x hm).1 e.symm)
 ·have he:recV (rs ++ [⟨kind,none,0,0,[]⟩]) = recV rs ++ [.int .i64 kind,.slice none 0 0]:=by rw [recV_append]; rfl
  rw [he,List.length_append]
  exact hown.kept (grownBy_set w' g1 0 v') (.inr (hfar g1 l1 f1))
 ·intro r hr
  rcases List.mem_append.1 hr with hr | hr
  ·have h1:=RcOwn.grown (h.recs r hr) h.own (by decide) hg
   exact h1.kept (grownBy_set w' g1 0 v') (.inr (h.rfar r hr (g1,[v]) (by simp)))
  ·simp at hr; subst hr
   exact World.ownsRow_nil _ _ _ _
 ·intro x hx
  simp only [List.mem_cons] at hx
  rcases hx with rfl | rfl | hx
  ·exact hfar g1 l1 f1
  ·exact hfar g2 l2 f2
  ·exact hfar x.1 (lb x hx) (h.far x (by simp [hx]))
 ·intro r hr x hx
  rcases List.mem_append.1 hr with hr | hr
  ·simp only [List.mem_cons] at hx
   rcases hx with rfl | rfl | hx
   ·exact h.rfar r hr (g1,[v]) (by simp)
   ·exact h.rfar r hr (g2,[.int .i64 0]) (by simp)
   ·exact h.rfar r hr x (by simp [hx])
  ·simp at hr; subst hr
   simp [Value.ownBlock]
theorem EncC.puts {g n cap:Nat} {rs0:List Rc} {r r':Rc} (h:EncC W w g1 g2 bs rd (.slice (some ⟨g,0,none⟩) n cap) (rs0 ++ [r])) (ht:r'.t = r.t) (hr':RcOwn w W.heap.size 5 r')
  (hf':Far (rcv r') ((g1,[.slice (some ⟨g,0,none⟩) n cap]) :: (g2,[.int .i64 0]) :: bs)) :
  EncC W ((w.setCell ⟨g2,0,none⟩ (.int .i64 0)).setCell ⟨g,rs0.length * 2 + 1,none⟩ (rcv r')) g1 g2 bs rd (.slice (some ⟨g,0,none⟩) n cap) (rs0 ++ [r']):=by
 have fg1:g ≠ g1:=fun e=>h.far (g1,[.slice (some ⟨g,0,none⟩) n cap]) (by simp) (by simp [Value.ownBlock,e])
 have fg2:g ≠ g2:=fun e=>h.far (g2,[.int .i64 0]) (by simp) (by simp [Value.ownBlock,e])
 have fgb:∀ x ∈ bs,g ≠ x.1:=fun x hx e=>h.far x (by simp [hx]) (by simp [Value.ownBlock,e])
 have hgl:=h.own.lt g rfl
 obtain rfl:n = (rs0 ++ [r]).length:=by
  rcases h.own.2 with ⟨e,_⟩ | ⟨g',cap',cur,e,_⟩
  ·cases e
  ·simp only [Value.slice.injEq] at e; exact e.2.1
 have hS:St W (w.setCell ⟨g2,0,none⟩ (.int .i64 0)) ((g1,[.slice (some ⟨g,0,none⟩) (rs0 ++ [r]).length cap]) :: (g2,[.int .i64 0]) :: bs) rd :=
  h.S.set 1 0 (.int .i64 0) rfl (by simp) h.lo2 (by
   intro x hx
   simp only [List.eraseIdx_cons_succ,List.eraseIdx_cons_zero,List.mem_cons] at hx
   rcases hx with rfl | hx
   ·exact h.ne
   ·exact (h.neb x hx).2) _ rfl
 have o1:=h.own.kept (grownBy_set w g2 0 (.int .i64 0)) (.inr (by simpa [Value.ownBlock] using fg2))
 have o2:=(o1.stored (rs0.length * 2 + 1) (rcv r')).1
 have R1:∀ q,RcOwn w W.heap.size 5 q → (rcv q).ownBlock ≠ some g2 → RcOwn ((w.setCell ⟨g2,0,none⟩ (.int .i64 0)).setCell ⟨g,rs0.length * 2 + 1,none⟩ (rcv r')) W.heap.size 5 q:=by
  intro q hq hne
  have q1:RcOwn (w.setCell ⟨g2,0,none⟩ (.int .i64 0)) W.heap.size 5 q:=hq.kept (grownBy_set w g2 0 (.int .i64 0)) (.inr hne)
  exact q1.grown o1 (by decide) (o1.stored (rs0.length * 2 + 1) (rcv r')).2
 refine ⟨⟨hS.b.setCell (p:=⟨g,_,none⟩) hgl.1 _,?_,h.S.rd⟩,?_,?_,h.far,?_,h.lo1,h.lo2,h.ne,h.neb,h.pos⟩
 ·intro i x hx
  have hne:g ≠ x.1:=by
   rcases i with _ | _ | i
   ·simp at hx; subst hx; exact fg1
   ·simp at hx; subst hx; exact fg2
   ·exact fgb x (List.mem_of_getElem? (by simpa using hx))
  exact (hS.bx i x hx).far _ hne
 ·have e:(recV (rs0 ++ [r])).set (rs0.length * 2 + 1) (rcv r') = recV (rs0 ++ [r']):=by
   rw [recV_append,recV_append,List.set_append_right _ _ (by rw [recV_len]; omega),recV_len,show rs0.length * 2 + 1 - rs0.length * 2 = 1 by omega]
   simp [recV,ht]
  rw [e,List.length_append] at o2
  rw [List.length_append,List.length_append]
  exact o2
 ·intro q hq
  rcases List.mem_append.1 hq with hq | hq
  ·exact R1 q (h.recs q (by simp [hq])) (h.rfar q (by simp [hq]) (g2,[.int .i64 0]) (by simp))
  ·simp at hq; subst hq
   exact R1 _ hr' (hf' (g2,[.int .i64 0]) (by simp))
 ·intro q hq
  rcases List.mem_append.1 hq with hq | hq
  ·exact h.rfar q (by simp [hq])
  ·simp at hq; subst hq
   exact hf'
end
end Go.Proofs.YtehimhbgakpenaaGreat

namespace Go.Proofs.YtehimhbgakpenaaGreat
set_option linter.unusedVariables false
open Go.RowKit
set_option maxRecDepth 100000 in
set_option maxHeartbeats 1600000 in
theorem begin_any (kind:Int) (W w:World) (g1 g2:Nat) (bs:List (Nat × List Value)) (rd:List (Option Addr × List Value)) (l:List Rec) (h:EncS W w g1 g2 bs rd l) (hl:l.length ≤ 1000000) :
  Calls Tryz.prog 167 #[.int .i64 kind,.pointer (some ⟨g1,0,none⟩)] w fun e w'=>e = .returned (.tuple #[]) ∧ EncS W w' g1 g2 bs rd (l ++ [(kind,[])]):=by
 obtain ⟨v,rs,h,rfl⟩:=h
 rw [List.length_map] at hl
 have c1:=h.S.c 0 0 rfl rfl
 have f1:=h.S.f 0 0 rfl rfl
 have hb0:=below_new' w (.cells #[.int .i64 kind,.slice none 0 0] 215)
 have h1:=h.call hb0
 have rd0:=Rd.lit w #[.int .i64 kind,.slice none 0 0] 215
 go_enter Tryz.func167,Tryz.ntmps167
 go_wp2_with (at_builtin; refine wpList_appB rfl recT (.tmp 3) (.tmp 6) rfl W.heap.size rfl h1.own (m:=1) rfl (by simp) rd0 (by simp [Value.oneCell']) (by simp only [maxLen]; omega) (by omega) h1.S.b.size (rs.length + 1) _ (by omega) rfl ?_; intro v3 w3 hown3 hbel3 hg3 hv3; obtain ⟨g3,k3,rfl,_,_,_⟩:=own_form hown3 (by omega); have h4:=h1.begun kind hown3 hg3 hv3; have cc:=hg3.cell (h1.S.c 0 0 rfl rfl) (fun e=>h1.far (g1,[v]) (by simp) e.symm); have ff:=((h1.S.box 0 rfl).kept hg3 (fun e=>h1.far (g1,[v]) (by simp) e.symm) (by simp)).f 0 rfl)
 go_end0
 exact ⟨rfl,_,_,h4,by simp [dat]⟩
set_option maxRecDepth 100000 in
set_option maxHeartbeats 1600000 in
theorem put_any (n k:Nat) (W w:World) (g1 g2:Nat) (bs:List (Nat × List Value)) (rd:List (Option Addr × List Value)) (l:List Rec) (t:Int) (x:List UInt8) (h:EncS W w g1 g2 bs rd (l ++ [(t,x)])) (hl:l.length ≤ 1000000) (hx:x.length ≤ 1000) (hk1:1 ≤ k) (hk:k ≤ 8) (hn:n < 256 ^ k) (hn2:n < 9223372036854775808) :
  Calls Tryz.prog 166 #[.int .i64 n,.int .i64 k,.pointer (some ⟨g1,0,none⟩),.pointer (some ⟨g2,0,none⟩)] w fun e w'=>e = .returned (.tuple #[]) ∧ EncS W w' g1 g2 bs rd (l ++ [(t,x ++ numB n k)]):=by
 obtain ⟨v,rs,h,he⟩:=h
 obtain ⟨rs0,r,rfl⟩:∃ rs0 r,rs = rs0 ++ [r]:=by
  rcases List.eq_nil_or_concat rs with rfl | ⟨a,b,e⟩
  ·simp at he
  ·exact ⟨a,b,by simpa using e⟩
 rw [List.map_append,List.map_cons,List.map_nil] at he
 obtain ⟨rfl,hr⟩:=List.append_inj' he rfl
 simp only [List.cons.injEq,and_true] at hr
 obtain ⟨g,cap,rfl,hg1,hg2,hown⟩:=own_form h.own (by simp)
 have hlen:(rs0 ++ [r]).length = rs0.length + 1:=by simp
 rw [hlen] at hown h
 have hrr:=(h.recs r (by simp)).ok
 obtain ⟨t',A,m,c,y⟩:=r
 simp only [dat,Prod.mk.injEq] at hr
 obtain ⟨rfl,rfl⟩:=hr
 obtain ⟨rd1,hm,hnc,hcm⟩:=hrr
 simp only at rd1 hm hnc hcm
 have AU:=append_any A m c y n k w rd1 hm (by omega) (by omega)
 have e1:auE n k = 0:=by unfold auE; rw [if_neg (by omega),Int.toNat_natCast,if_pos hn]
 have e2:auR y n k = y ++ numB n k:=by unfold auR; rw [e1,if_pos rfl,Int.toNat_natCast]
 rw [e1,e2] at AU
 clear e1 e2
 replace AU:=Lib.hid AU
 replace hm:=Lib.hid hm
 replace hlen:=Lib.hid hlen
 rw [List.length_map] at hl
 have c1:=h.S.c 0 0 rfl rfl
 have c2:w.cell? ⟨g,rs0.length * 2 + 1,none⟩ = some (.slice A m c):=by
  rw [hown.cellAt _ (by omega),recV_append,List.getElem?_append_right (by rw [recV_len]; omega),recV_len,show rs0.length * 2 + 1 - rs0.length * 2 = 1 by omega]
  rfl
 go_enter Tryz.func166,Tryz.ntmps166
 go_wp2_with fail
 (with_reducible refine AU.out.mono ?_)
 rintro e w1 ⟨v1,rfl,hown1,hb1⟩
 have h2:=h.call hb1
 have hsz:=h.S.b.size
 have d2:=h2.S.c 1 0 rfl rfl
 have f2:=h2.S.f 1 0 rfl rfl
 have c3:=cell_later hb1 c2
 have f3:=(own_below hown hb1).frozenAt (rs0.length * 2 + 1)
 generalize (y ++ numB n k).length = q at hown1 ⊢
 obtain ⟨A1,k1,rfl,_,_,_⟩:=own_rd hown1
 have hfin:=h2.puts (r':=⟨t',A1,q,k1,y ++ numB n k⟩) rfl (own_mono hown1 hsz) (by
  have l1:=(h.S.box 0 rfl).lt (by simp)
  have l2:=(h.S.box 1 rfl).lt (by simp)
  intro x hx e
  have hlt:=(hown1.lt x.1 e).1
  simp only [List.mem_cons] at hx
  rcases hx with rfl | rfl | hx
  ·simp only at hlt; omega
  ·simp only at hlt; omega
  ·obtain ⟨i,hi,he⟩:=List.getElem_of_mem hx
   have:=(h.S.bx (i + 2) x (by simp [List.getElem?_eq_getElem hi,he])).lt (h.pos x hx)
   omega)
 clear c1 c2 AU hown
 go_wp2_with fail
 go_end0
 exact ⟨rfl,_,_,hfin,by rw [List.map_append]; rfl⟩
theorem put_z (z zk:Int) (n k:Nat) (hz:z = n) (hzk:zk = k) (W w:World) (g1 g2:Nat) (bs:List (Nat × List Value)) (rd:List (Option Addr × List Value)) (l:List Rec) (t:Int) (x:List UInt8) (h:EncS W w g1 g2 bs rd (l ++ [(t,x)])) (hl:l.length ≤ 1000000) (hx:x.length ≤ 1000) (hk1:1 ≤ k) (hk:k ≤ 8) (hn:n < 256 ^ k) (hn2:n < 9223372036854775808) :
  Calls Tryz.prog 166 #[.int .i64 z,.int .i64 zk,.pointer (some ⟨g1,0,none⟩),.pointer (some ⟨g2,0,none⟩)] w fun e w'=>e = .returned (.tuple #[]) ∧ EncS W w' g1 g2 bs rd (l ++ [(t,x ++ numB n k)]):=by
 subst hz hzk
 exact put_any n k W w g1 g2 bs rd l t x h hl hx hk1 hk hn hn2
end Go.Proofs.YtehimhbgakpenaaGreat

namespace Go.Proofs.YtehimhbgakpenaaGreat
set_option linter.unusedVariables false
open Go.RowKit
set_option maxHeartbeats 4000000 in
theorem cencode_any (A:Option Addr) (n cap:Nat) (l:List Rc) (w:World) (hr:Rd w A (recV l)) (hok:∀ r ∈ l,RcOk w r) (hn:l.length = n) (hn2:n ≤ 1000000) :
  Calls Tryz.prog 125 #[.slice A n cap] w fun e w' =>
   ∃ v,e = .returned (.tuple #[v,.int .i64 (encE (l.map dat))]) ∧ w'.ownsRow w.heap.size 5 1 v (encR (l.map dat)).length ((encR (l.map dat)).map u8v) ∧ Below w.heap.size w w':=by
 subst hn
 obtain ⟨E,hE⟩:∃ E,encE (l.map dat) = E:=⟨_,rfl⟩
 obtain ⟨R,hR⟩:∃ R,encR (l.map dat) = R:=⟨_,rfl⟩
 rw [hE,hR]
 have hF:Hid (encE ((l.drop 0).map dat) = E):=hE
 have hR0:Hid (E = 0 → R = encAll (l.map dat)):=fun h=>by rw [← hR]; unfold encR; rw [hE,if_pos h]
 have hR1:Hid (E ≠ 0 → R = []):=fun h=>by rw [← hR]; unfold encR; rw [hE,if_neg h]
 clear hE hR
 have S:=(St.start w).read hr
 replace hok:=Lib.hid hok
 clear hr
 go_enter Tryz.func125,Tryz.ntmps125
 go_wp2_with fail
 go_loopw [4,9] (fun v4 v9 wr=>∃ (k N:Nat),k ≤ l.length ∧ v9 = .int .i64 k ∧ N ≤ 65538 * k ∧ wr.ownsRow w.heap.size 5 1 v4 N ((encAll ((l.take k).map dat)).map u8v) ∧ Hid (encE ((l.drop k).map dat) = E) ∧ St w wr [] [(A,recV l)]) (fun v4 v9 _=>l.length - (intOf v9).toNat)
 case atStart=>exact ⟨0,0,by omega,rfl,by omega,World.ownsRow_nil _ _ _ _,hF,S⟩
 case round =>
  clear S hF
  obtain ⟨k,N,hk,rfl,hN,hown,hfe,S⟩:=hrel
  by_cases hkn:k < l.length
  ·obtain ⟨b,off,rfl,c0,c1⟩:=rd_recs (S.r 0 rfl) hkn
   have hstep:=encE_drop l k hkn
   have hall:=encAll_take l k hkn
   have hrk:=hok.out l[k] (List.getElem_mem hkn)
   rw [hfe.out] at hstep
   generalize l[k] = r at c0 c1 hstep hall hrk
   obtain ⟨t,B,m,c,bs⟩:=r
   obtain ⟨rd,hl,hnc,hcm⟩:=hrk
   simp only at rd hl hnc hcm hstep c0 c1
   rw [hl] at hstep
   replace hall:=Lib.hid hall
   replace hl:=Lib.hid hl
   clear hfe
   by_cases h1:t < 1
   ·rw [if_pos (.inl h1)] at hstep
    obtain rfl:E = 1:=hstep
    obtain rfl:=hR1.out (by omega)
    go_wp2_with fail
    go_ret2
    exact ⟨_,rfl,World.ownsRow_nil _ _ _ _,(S.alloc _).b⟩
   by_cases h2:255 < t
   ·rw [if_pos (.inr h2)] at hstep
    obtain rfl:E = 1:=hstep
    obtain rfl:=hR1.out (by omega)
    go_wp2_with fail
    go_ret2
    exact ⟨_,rfl,World.ownsRow_nil _ _ _ _,(S.alloc _).b⟩
   rw [if_neg (by omega)] at hstep
   by_cases h3:65535 < m
   ·rw [if_pos h3] at hstep
    obtain rfl:E = 6:=hstep
    obtain rfl:=hR1.out (by omega)
    go_wp2_with fail
    go_ret2
    exact ⟨_,rfl,World.ownsRow_nil _ _ _ _,(S.alloc _).b⟩
   rw [if_neg h3] at hstep
   have hE3:Hid (encE ((l.drop (k + 1)).map dat) = E):=hstep.symm
   clear hstep
   have hal:Hid (List.map u8v (encAll ((l.take k).map dat)) ++ [.int .u8 t,.int .u8 ((m:Int) / 256),.int .u8 ((m:Int) % 256)] ++ bs.map u8v = List.map u8v (encAll ((l.take (k + 1)).map dat))):=by
    show _ = _
    rw [hall.out,List.map_append,List.append_assoc]
    congr 1
    simp only [enc1,dat,hl.out,List.map_append,List.map_cons,List.map_nil]
    have e1:u8v (UInt8.ofNat t.toNat) = .int .u8 t:=u8_ofInt (by omega) (by omega)
    have e2:u8v (UInt8.ofNat (m / 256)) = .int .u8 ((m:Int) / 256):=by
     rw [← u8_wrap,IntKind.wrap_u8]; congr 1; omega
    have e3:u8v (UInt8.ofNat m) = .int .u8 ((m:Int) % 256):=by
     rw [← u8_wrap,IntKind.wrap_u8]
    rw [e1,e2,e3]
   have hb0:=(below_new' wr (.cells #[.int .i64 t,.slice B m c] 215))
   have hb1:=hb0.trans ((below_new' (wr.alloc (.cells #[.int .i64 t,.slice B m c] 215)) (.cells #[.int .u8 t,.int .u8 ((m:Int) / 256),.int .u8 ((m:Int) % 256)] 5)).mono hb0.size)
   have hown1:=own_below hown hb1
   have rd0:=Rd.lit (wr.alloc (.cells #[.int .i64 t,.slice B m c] 215)) #[.int .u8 t,.int .u8 ((m:Int) / 256),.int .u8 ((m:Int) % 256)] 5
   rw [World.size_alloc,Array.toList] at rd0
   have S1:=S.call hb1
   have hsz:=S1.b.size
   have hbx:=(Box.new wr #[.int .i64 t,.slice B m c] 215).alloc (.cells #[.int .u8 t,.int .u8 ((m:Int) / 256),.int .u8 ((m:Int) % 256)] 5)
   have hlt:=fun g (e:u4.ownBlock = some g)=>(hown.lt g e).2
   clear hown hall hb0
   go_wp2_with (first
    | (at_builtin; refine wpList_appG rfl bytesT (.tmp 25) (.tmp 38) rfl w.heap.size rfl hown1 (m:=3) rfl (by simp) rd0 (by simp [Value.oneCell']) (by simp only [maxLen]; omega) (by omega) hsz (N + 3) _ (by omega) rfl ?_; intro v3 w3 hown3 hbel3 hg3; have x1:=hg3.cell (hbx.c 1 rfl) (fun e=>absurd (hlt _ e.symm) (Nat.lt_irrefl _)); have hb3:=S1.b.trans hbel3; have rd2:=rd.below hb3; replace S:St w w3 [] [(some ⟨b,off,none⟩,recV l)]:=⟨hb3,by simp,S.rd⟩; clear hown1 rd0 S1 hb1 hsz hbel3)
    | (at_builtin; refine wpList_app rfl bytesT (.tmp 40) (.tmp 42) rfl w.heap.size rfl hown3 (m:=m) rfl (by simp [hl.out]) rd2 (u8v_one _) (by simp only [maxLen]; omega) (by omega) hb3.size (N + 3 + m) _ (by omega) hal.out ?_; intro v4 w4 hown4 hbel4))
   replace S:St w w4 [] [(some ⟨b,off,none⟩,recV l)]:=⟨hb3.trans hbel4,by simp,S.rd⟩
   go_roundw
   case rel=>exact ⟨k + 1,N + 3 + m,by omega,by go_num,by omega,hown4,hE3,S⟩
   case measure=>simp [intOf]; omega
  ·obtain rfl:k = l.length:=by omega
   obtain rfl:E = 0:=by rw [← hfe.out,List.drop_length]; rfl
   obtain rfl:=hR0.out rfl
   rw [List.take_length] at hown
   go_wp2_with fail
   go_ret2
   refine ⟨_,rfl,?_,S.b⟩
   have:=hown.1
   rw [List.length_map,Nat.mul_one] at this
   rw [this]
   exact hown
end Go.Proofs.YtehimhbgakpenaaGreat
