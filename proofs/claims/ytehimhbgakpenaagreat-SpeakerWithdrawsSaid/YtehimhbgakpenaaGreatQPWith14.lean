/-
  The texts CodD, Dec, one after the other.
-/
import Derived.Test.YtehimhbgakpenaaGreatQPWith13
import Derived.Shelf.Abstract
import Derived.Deep.AppendLies
import Derived.Test.YtehimhbgakpenaaGreatQPWith10
import Derived.Test.YtehimhbgakpenaaGreatQPWith12
import Derived.Deep.RegionLaw
import Derived.IntWalk
namespace Go.Proofs.YtehimhbgakpenaaGreat
set_option linter.unusedVariables false
open Go.RowKit Go.Shelf
attribute [local go_sem] Oper.semAt_some
theorem recT':ElemT Tryz.prog 211 215 (.agg #[.int .i64 0,.slice none 0 0]) 2 32:=⟨Tryz.underlying211,by kernel_rfl,rfl,by omega⟩
structure DecI (w W:World) (rs:List Rc) (v:Value):Prop where
 c:W.cell? ⟨w.heap.size + 2,0,none⟩ = some v
 f:W.frozen? ⟨w.heap.size + 2,0,none⟩ = false
 own:W.ownsRow (w.heap.size + 4) 215 2 v rs.length (recV rs)
 rs:∀ r ∈ rs,RcOwn W (w.heap.size + 4) 5 r
 c0:W.cell? ⟨w.heap.size,0,none⟩ = some (.slice none 0 0)
 f0:W.frozen? ⟨w.heap.size,0,none⟩ = false
 c1:W.cell? ⟨w.heap.size + 1,0,none⟩ = some (.int .i64 0)
 f1:W.frozen? ⟨w.heap.size + 1,0,none⟩ = false
 b:Below w.heap.size w W
structure DecX (w W:World):Prop where
 c0:W.cell? ⟨w.heap.size,0,none⟩ = some (.slice none 0 0)
 c1:W.cell? ⟨w.heap.size + 1,0,none⟩ = some (.int .i64 4)
 b:Below w.heap.size w W
theorem cell_set_other {W:World} {p q:Addr} {v:Value} (u:Value) (h:W.cell? q = some v) (hne:q ≠ p):(W.setCell p u).cell? q = some v:=(cell_far u (fun e=>hne e.symm)).trans h
theorem DecI.below {w W W':World} {rs:List Rc} {v:Value} (h:DecI w W rs v) (hb:Below W.heap.size W W'):DecI w W' rs v :=
 ⟨cell_later hb h.c,free_later hb h.c h.f,own_below h.own hb,fun r hr=>(h.rs r hr).below hb,cell_later hb h.c0,free_later hb h.c0 h.f0,cell_later hb h.c1,free_later hb h.c1 h.f1,h.b.trans (hb.mono h.b.size)⟩
theorem DecI.set {w W:World} {rs:List Rc} {v:Value} (h:DecI w W rs v) (u:Value):DecI w (W.setCell ⟨w.heap.size + 3,0,none⟩ u) rs v :=
 ⟨cell_set_other u h.c (by simp),by simp [h.f],ownsRow_setCell_below h.own (a:=⟨w.heap.size + 3,0,none⟩) (Nat.lt_succ_self _) u,fun r hr=>(h.rs r hr).set (a:=⟨w.heap.size + 3,0,none⟩) (Nat.lt_succ_self _) u,
  cell_set_other u h.c0 (by simp),by simp [h.f0],cell_set_other u h.c1 (by simp),by simp [h.f1],h.b.setCell (p:=⟨w.heap.size + 3,0,none⟩) (by simp) u⟩
theorem DecI.put {w W:World} {rs:List Rc} {v:Value} (h:DecI w W rs v) {l:Nat} {o:Obj} (o':Obj) (hw:w.heap.size ≤ l) (hl:W.heap[l]? = some o) (ho:o.isCells = false):DecI w (W.putObj l o') rs v :=
 have hg:=grownBy_putObj' W l o'
 have hk:∀ r,some l = some r → ∃ o:Obj,W.heap[r]? = some o ∧ o.isCells = false:=fun r e=>by cases e; exact ⟨o,hl,ho⟩
 ⟨cell_kept h.c hg hk,(frozen_kept h.c hg hk).trans h.f,ownsRow_putObj h.own o' hl ho,fun r hr=>ownsRow_putObj (h.rs r hr) o' hl ho,cell_kept h.c0 hg hk,(frozen_kept h.c0 hg hk).trans h.f0,cell_kept h.c1 hg hk,(frozen_kept h.c1 hg hk).trans h.f1,
  h.b.grown hg h.b.size fun k e=>by cases e; exact hw⟩
theorem DecX.put {w W:World} (h:DecX w W) {l:Nat} {o:Obj} (o':Obj) (hw:w.heap.size ≤ l) (hl:W.heap[l]? = some o) (ho:o.isCells = false):DecX w (W.putObj l o') :=
 have hg:=grownBy_putObj' W l o'
 have hk:∀ r,some l = some r → ∃ o:Obj,W.heap[r]? = some o ∧ o.isCells = false:=fun r e=>by cases e; exact ⟨o,hl,ho⟩
 ⟨cell_kept h.c0 hg hk,cell_kept h.c1 hg hk,h.b.grown hg h.b.size fun k e=>by cases e; exact hw⟩
set_option maxHeartbeats 4000000 in
theorem cdecode_any (A:Option Addr) (n cap:Nat) (bs:List UInt8) (w:World) (hr:Bs w A bs) (hn:bs.length = n) (hcap:n ≤ cap) (hm:cap ≤ maxLen) (hn2:n ≤ 1000000000) :
  Calls Tryz.prog 111 #[.slice A n cap] w (DecPost 215 5 w bs):=by
 unfold maxLen at hm
 obtain ⟨D,hD⟩:∃ D,decO bs = D:=⟨_,rfl⟩
 have hPD:DecPost 215 5 w bs = DecPostD 215 5 w D:=by subst hD; rfl
 rw [hPD]
 clear hPD
 replace hn:=Lib.hid hn
 replace hD:=Lib.hid hD
 refine (callsIn_wide (n:=6)).1 ?_
 refine callsIn_of_wp_marks Tryz.func111 rfl trivial ?_ rfl
 simp only [Tryz.ntmps111,List.size_toArray,List.length_cons,List.length_nil,Nat.reduceAdd,Nat.reduceSub,Array.replicate_succ,Array.replicate_zero,List.push_toArray,List.append_toArray,List.nil_append,List.cons_append]
 have hn1:Fence.wide.depth.isSome = true → 1 ≤ 6:=fun _=>by omega
 gi_wp2_with (refine ⟨trivial,?_⟩; gi_at_call 158; refine (callsIn_wide.2 (records_any _ _ _ _)).mono ?_; rintro e w' ⟨rfl,rfl⟩)
 obtain ⟨Wr,hWr⟩:∃ Wr,(((w.alloc (.cells #[.slice none 0 0] 211)).alloc (.cells #[.int .i64 0] 32)).alloc (.cells #[.slice none 0 0] 211)).alloc (.cells #[.slice A n cap] 89) = Wr:=⟨_,rfl⟩
 have hsz:Wr.heap.size = w.heap.size + 4:=by rw [← hWr]; simp
 have hI0:DecI w Wr [] (.slice none 0 0):=by
  have S:=(((((St.start w).new' #[.slice none 0 0] 211 w.heap.size _ rfl rfl).new' #[.int .i64 0] 32 (w.heap.size + 1) _ (by simp) rfl).new' #[.slice none 0 0] 211 (w.heap.size + 2) _ (by simp) rfl).new' #[.slice A n cap] 89 (w.heap.size + 3) _ (by simp) rfl)
  rw [hWr] at S
  exact ⟨S.c 1 0 rfl rfl,S.f 1 0 rfl rfl,World.ownsRow_nil _ _ _ _,by simp,S.c 3 0 rfl rfl,S.f 3 0 rfl rfl,S.c 2 0 rfl rfl,S.f 2 0 rfl rfl,S.b⟩
 have hcB:Wr.cell? ⟨w.heap.size + 3,0,none⟩ = some (.slice A n cap) ∧ Wr.frozen? ⟨w.heap.size + 3,0,none⟩ = false:=by
  have:=Box.new (((w.alloc (.cells #[.slice none 0 0] 211)).alloc (.cells #[.int .i64 0] 32)).alloc (.cells #[.slice none 0 0] 211)) #[.slice A n cap] 89 0 _ rfl
  rw [hWr] at this
  simpa using this
 replace hWr:=Lib.hid hWr
 gi_wp2
 rw [hWr.out]
 refine range_law rfl (by omega) (gf:=186) (lb:=#[.pointer (some ⟨w.heap.size + 3,0,none⟩)]) rfl trivial (enters_of Tryz.func186 (by kernel_rfl) rfl)
  (fun W=>∃ rs v,D = some (rs.map dat) ∧ DecI w W rs v) (fun W=>D = none ∧ DecX w W) ?pr ?px ?iter ?done ?stop
 case pr =>
  rintro W l o o' ⟨rs,v,e,h⟩ hl ho hc
  exact ⟨rs,v,e,h.put o' (by omega) ho hc⟩
 case px =>
  rintro W l o o' ⟨e,h⟩ hl ho hc
  exact ⟨e,h.put o' (by omega) ho hc⟩
 case done =>
  rintro W ⟨rs,v,rfl,h⟩ hK
  rw [hsz] at hK
  obtain ⟨c,f,own,hrs,c0,f0,c1,f1,hb⟩:=h
  obtain ⟨A',c',rfl,rd',hc1,hc2⟩:=own_rd own
  obtain ⟨W2,hW2⟩:∃ W2,(W.setCell ⟨w.heap.size,0,none⟩ (.slice A' rs.length c')).setCell ⟨w.heap.size + 1,0,none⟩ (.int .i64 0) = W2:=⟨_,rfl⟩
  have hK2:W2.heap[w.heap.size + 4]? = some (.deferred (some [])):=by
   rw [← hW2,Below.heap_setCell _ _ _ _ (by simp),Below.heap_setCell _ _ _ _ (by simp)]; exact hK
  have hown2:W2.ownsRow (w.heap.size + 4) 215 2 (.slice A' rs.length c') rs.length (recV rs):=by
   rw [← hW2]; exact ownsRow_setCell_below (ownsRow_setCell_below own (a:=⟨w.heap.size,0,none⟩) (by show w.heap.size < _; omega) _) (a:=⟨w.heap.size + 1,0,none⟩) (by show w.heap.size + 1 < _; omega) _
  have hrs2:∀ r ∈ rs,RcOwn W2 (w.heap.size + 4) 5 r:=by
   rw [← hW2]; exact fun r hr=>((hrs r hr).set (a:=⟨w.heap.size,0,none⟩) (by show w.heap.size < _; omega) _).set (a:=⟨w.heap.size + 1,0,none⟩) (by show w.heap.size + 1 < _; omega) _
  have hb2:Below w.heap.size w W2:=by
   rw [← hW2]; exact (hb.setCell (p:=⟨w.heap.size,0,none⟩) (Nat.le_refl _) _).setCell (p:=⟨w.heap.size + 1,0,none⟩) (by simp) _
  have e0:W2.cell? ⟨w.heap.size,0,none⟩ = some (.slice A' rs.length c'):=by
   rw [← hW2]; exact cell_set_other _ (World.cell?_setCell_same _ _ _ c0) (by simp)
  have e1:W2.cell? ⟨w.heap.size + 1,0,none⟩ = some (.int .i64 0):=by
   rw [← hW2]; exact World.cell?_setCell_same _ _ _ (cell_set_other _ c1 (by simp))
  have hg:=grownBy_putObj' W2 (w.heap.size + 4) (.deferred none)
  have hk:∀ r,some (w.heap.size + 4) = some r → ∃ o:Obj,W2.heap[r]? = some o ∧ o.isCells = false:=fun r e=>by cases e; exact ⟨_,hK2,rfl⟩
  have d0:=cell_kept e0 hg hk
  have d1:=cell_kept e1 hg hk
  replace hW2:=Lib.hid hW2
  replace hK2:=Lib.hid hK2
  clear e0 e1
  gi_wp2
  rw [hW2.out,hsz]
  refine ⟨by simp,.inl ⟨_,_,rfl,run_takeDeferred hK2.out,?_⟩⟩
  refine ⟨.tuple #[.slice A' rs.length c',.int .i64 0],by simp [results,Tryz.results111,go_sem,d0,d1],?_⟩
  exact ⟨_,rs,rfl,own_mono (ownsRow_putObj hown2 _ hK2.out rfl) (by omega),fun r hr=>RcOwn.mono (ownsRow_putObj (hrs2 r hr) _ hK2.out rfl) (by omega),rfl,hb2.grown hg hb2.size fun k e=>by cases e; omega⟩
 case stop =>
  rintro W ⟨rfl,h⟩ hK
  rw [hsz] at hK
  obtain ⟨c0,c1,hb⟩:=h
  have hg:=grownBy_putObj' W (w.heap.size + 4) (.deferred none)
  have hk:∀ r,some (w.heap.size + 4) = some r → ∃ o:Obj,W.heap[r]? = some o ∧ o.isCells = false:=fun r e=>by cases e; exact ⟨_,hK,rfl⟩
  have d0:=cell_kept c0 hg hk
  have d1:=cell_kept c1 hg hk
  replace hK:=Lib.hid hK
  gi_wp2
  rw [hsz]
  refine ⟨by simp,.inl ⟨_,_,rfl,run_takeDeferred hK.out,?_⟩⟩
  refine ⟨.tuple #[.slice none 0 0,.int .i64 4],by simp [results,Tryz.results111,go_sem,d0,d1],?_⟩
  exact ⟨_,[],rfl,World.ownsRow_nil _ _ _ _,by simp,rfl,hb.grown hg hb.size fun k e=>by cases e; omega⟩
 case iter =>
  intro fn hfn LR hLR
  obtain ⟨W1,hW1⟩:∃ W1,(Wr.alloc (.deferred (some []))).alloc (.loop (LR .ready none)) = W1:=⟨_,rfl⟩
  have hb1:Below Wr.heap.size Wr W1:=by rw [← hW1]; exact ((Below.refl _ Wr).alloc (Nat.le_refl _) _).alloc (by simp) _
  have hL1:W1.heap[Wr.heap.size + 1]? = some (.loop (LR .ready none)):=by
   rw [← hW1]; have:=World.alloc_heap_new (Wr.alloc (.deferred (some []))) (.loop (LR .ready none)); rwa [World.size_alloc] at this
  have hK1:W1.heap[Wr.heap.size]? = some (.deferred (some [])):=by
   rw [← hW1]; exact (Below.heap_alloc _ _ _ (by simp)).trans (World.alloc_heap_new Wr _)
  rw [hW1]
  refine (recs_in 5 (by omega) (Wr.heap.size + 1) (w.heap.size + 3) w.heap.size A n cap bs w hr hn.out hcap (by omega) hn2 rfl
   (fun pre W=>(∃ rs v,rs.map dat = pre ∧ DecI w W rs v) ∧ W.heap[Wr.heap.size + 1]? = some (.loop (LR .ready none)) ∧ W.heap[Wr.heap.size]? = some (.deferred (some [])))
   (fun W=>DecX w W ∧ W.heap[Wr.heap.size + 1]? = some (.loop (LR .done (some .ret))) ∧ W.heap[Wr.heap.size]? = some (.deferred (some [])))
   ?jb ?jc ?jy ?jn W1 ((hI0.below hb1).b) (by omega) (cell_later hb1 hcB.1) (free_later hb1 hcB.1 hcB.2) ⟨⟨[],_,rfl,hI0.below hb1⟩,hL1,hK1⟩).mono ?fin
  case jb =>
   rintro s W W' ⟨⟨rs,v,e,h⟩,hl,hk⟩ hb
   exact ⟨⟨rs,v,e,h.below hb⟩,(hb.block _ (Array.getElem?_eq_some_iff.1 hl).1).trans hl,(hb.block _ (Array.getElem?_eq_some_iff.1 hk).1).trans hk⟩
  case jc =>
   rintro s W u ⟨⟨rs,v,e,h⟩,hl,hk⟩
   exact ⟨⟨rs,v,e,h.set u⟩,(Below.heap_setCell _ _ _ _ (by show _ ≠ w.heap.size + 3; omega)).trans hl,(Below.heap_setCell _ _ _ _ (by show _ ≠ w.heap.size + 3; omega)).trans hk⟩
  case fin =>
   rintro e W' ⟨hv,(⟨l,hl,⟨rs,v,rfl,h⟩,h2,h3⟩ | ⟨hl,h,h2,h3⟩)⟩
   ·exact ⟨hv,.inl ⟨⟨rs,v,hD.out.symm.trans hl,h⟩,h2,h3⟩⟩
   ·exact ⟨hv,.inr ⟨⟨hD.out.symm.trans hl,h⟩,h2,h3⟩⟩
  case jn =>
   rintro pre W ⟨⟨rs,v,e,h⟩,hl,hk⟩
   refine yield_round hLR trivial hl rfl ?_
   clear hLR hW1 hL1 hb1 hK1
   gi_wp2
   have hlA:=(Below.heap_alloc W (.cells #[.int .i64 0,.slice none 0 0] 215) _ (Array.getElem?_eq_some_iff.1 hl).1).trans hl
   have hkA:=(Below.heap_alloc W (.cells #[.int .i64 0,.slice none 0 0] 215) _ (Array.getElem?_eq_some_iff.1 hk).1).trans hk
   refine ⟨hlA,?_⟩
   obtain ⟨Wb,hWb⟩:∃ Wb,(W.alloc (.cells #[.int .i64 0,.slice none 0 0] 215)).putObj (Wr.heap.size + 1) (.loop (LR .busy none)) = Wb:=⟨_,rfl⟩
   have hDb:DecI w Wb rs v:=by rw [← hWb]; exact (h.below (below_new' W _)).put _ (by omega) hlA rfl
   have hlb:Wb.heap[Wr.heap.size + 1]? = some (.loop (LR .busy none)):=by rw [← hWb]; exact World.putObj_heap_same (Array.getElem?_eq_some_iff.1 hlA).1
   have hkb:Wb.heap[Wr.heap.size]? = some (.deferred (some [])):=by rw [← hWb]; exact (World.putObj_heap_other (by omega)).trans hkA
   rw [hWb]
   clear hWb hlA hkA hl hk h
   obtain ⟨c,f,own,hrs,c0,f0,c1,f1,hb⟩:=hDb
   obtain ⟨W3,hW3⟩:∃ W3,(Wb.setCell ⟨w.heap.size,0,none⟩ (.slice none 0 0)).setCell ⟨w.heap.size + 1,0,none⟩ (.int .i64 4) = W3:=⟨_,rfl⟩
   have hX:DecX w W3:=by
    rw [← hW3]
    exact ⟨cell_set_other _ (World.cell?_setCell_same _ _ _ c0) (by simp),World.cell?_setCell_same _ _ _ (cell_set_other _ c1 (by simp)),(hb.setCell (p:=⟨w.heap.size,0,none⟩) (Nat.le_refl _) _).setCell (p:=⟨w.heap.size + 1,0,none⟩) (by simp) _⟩
   have hl3:W3.heap[Wr.heap.size + 1]? = some (.loop (LR .busy none)):=by
    rw [← hW3,Below.heap_setCell _ _ _ _ (by show _ ≠ w.heap.size + 1; omega),Below.heap_setCell _ _ _ _ (by show _ ≠ w.heap.size; omega)]; exact hlb
   have hk3:W3.heap[Wr.heap.size]? = some (.deferred (some [])):=by
    rw [← hW3,Below.heap_setCell _ _ _ _ (by show _ ≠ w.heap.size + 1; omega),Below.heap_setCell _ _ _ _ (by show _ ≠ w.heap.size; omega)]; exact hkb
   replace hW3:=Lib.hid hW3
   gi_wp2
   rw [hW3.out]
   exact ⟨hl3,rfl,hX.put _ (by omega) hl3 rfl,World.putObj_heap_same (Array.getElem?_eq_some_iff.1 hl3).1,(World.putObj_heap_other (by omega)).trans hk3⟩
  case jy =>
   rintro pre W r ⟨⟨rs,v,rfl,h⟩,hl,hk⟩ hpl hrc ⟨u,hu⟩ hbW
   refine yield_round hLR trivial hl rfl ?_
   clear hLR hW1 hL1 hb1 hK1
   have hrc0:=hrc
   obtain ⟨t,A3,N,c3,vs⟩:=r
   gi_wp2
   have hlA:=(Below.heap_alloc W (.cells #[.int .i64 t,.slice A3 N c3] 215) _ (Array.getElem?_eq_some_iff.1 hl).1).trans hl
   have hkA:=(Below.heap_alloc W (.cells #[.int .i64 t,.slice A3 N c3] 215) _ (Array.getElem?_eq_some_iff.1 hk).1).trans hk
   have hBx:=Box.new W #[.int .i64 t,.slice A3 N c3] 215
   refine ⟨hlA,?_⟩
   have hg0:=grownBy_putObj' (W.alloc (.cells #[.int .i64 t,.slice A3 N c3] 215)) (Wr.heap.size + 1) (.loop (LR .busy none))
   have hk0:∀ r,some (Wr.heap.size + 1) = some r → ∃ o:Obj,(W.alloc (.cells #[.int .i64 t,.slice A3 N c3] 215)).heap[r]? = some o ∧ o.isCells = false:=fun r e=>by cases e; exact ⟨_,hlA,rfl⟩
   obtain ⟨Wb,hWb⟩:∃ Wb,(W.alloc (.cells #[.int .i64 t,.slice A3 N c3] 215)).putObj (Wr.heap.size + 1) (.loop (LR .busy none)) = Wb:=⟨_,rfl⟩
   have hDb:DecI w Wb rs v:=by rw [← hWb]; exact (h.below (below_new' W _)).put _ (by omega) hlA rfl
   have hrb:RcOwn Wb (w.heap.size + 4) 5 ⟨t,A3,N,c3,vs⟩:=by rw [← hWb]; exact ownsRow_putObj (hrc.below (below_new' W _)) _ hlA rfl
   have hlb:Wb.heap[Wr.heap.size + 1]? = some (.loop (LR .busy none)):=by rw [← hWb]; exact World.putObj_heap_same (Array.getElem?_eq_some_iff.1 hlA).1
   have hkb:Wb.heap[Wr.heap.size]? = some (.deferred (some [])):=by rw [← hWb]; exact (World.putObj_heap_other (by omega)).trans hkA
   have b0:Wb.cell? ⟨W.heap.size,0,none⟩ = some (.int .i64 t):=by rw [← hWb]; exact cell_kept (hBx.c 0 rfl) hg0 hk0
   have b1:Wb.cell? ⟨W.heap.size,1,none⟩ = some (.slice A3 N c3):=by rw [← hWb]; exact cell_kept (hBx.c 1 rfl) hg0 hk0
   have sb:∀ k,k < W.heap.size → k ≠ Wr.heap.size + 1 → Wb.heap[k]? = W.heap[k]?:=fun k h1 h2=>by rw [← hWb]; exact (World.putObj_heap_other (by omega)).trans (Below.heap_alloc W _ _ h1)
   have szb:W.heap.size < Wb.heap.size:=World.block_lt_of_cell? _ _ b0
   have hbb:Below w.heap.size W Wb:=by
    rw [← hWb]; exact ((Below.refl w.heap.size W).alloc h.b.size _).grown hg0 (by have:=h.b.size; simp; omega) fun k e=>by cases e; omega
   rw [hWb]
   have hult:w.heap.size + 3 < W.heap.size:=World.block_lt_of_cell? _ _ hu
   have hrl:rs.length ≤ 1000000000:=by simpa using hpl
   clear hWb hlA hkA hBx hg0 hk0 hl hk hrc hrc0 h hu
   obtain ⟨c,f,own,hrs,c0,f0,c1,f1,hb⟩:=hDb
   replace hrs:=Lib.hid hrs
   replace sb:=Lib.hid sb
   obtain ⟨i0,hi,hz0,hz1,hz2⟩:=info_parts (recT' ).info
   have hgl:some (Wr.heap.size + 1) ≠ v.ownBlock:=by
    rcases own.2 with ⟨rfl,_⟩ | ⟨g,cap,cur,rfl,_,hh,_⟩
    ·simp [Value.ownBlock]
    ·intro e; simp only [Value.ownBlock,Option.some.injEq] at e; subst e; rw [hlb] at hh; cases hh
   have hgk:some Wr.heap.size ≠ v.ownBlock:=by
    rcases own.2 with ⟨rfl,_⟩ | ⟨g,cap,cur,rfl,_,hh,_⟩
    ·simp [Value.ownBlock]
    ·intro e; simp only [Value.ownBlock,Option.some.injEq] at e; subst e; rw [hkb] at hh; cases hh
   have hgs:∀ k,k < w.heap.size + 4 → some k ≠ v.ownBlock:=fun k hk e=>by have:=(own.lt k e.symm).1; omega
   replace hgs:=Lib.hid hgs
   have hr1:rs.length + 1 ≤ maxLen:=by simp only [maxLen]; omega
   have hr2:(rs.length + 1) * 32 ≤ 140737488355328:=by omega
   have hr3:w.heap.size + 4 ≤ (Wb.alloc (.cells #[.int .i64 t,.slice A3 N c3] 215)).heap.size:=by simp; omega
   have hnews:∀ (j:Nat) (u:Value),[(.int .i64 t:Value),.slice A3 N c3][j]? = some u → (Wb.alloc (.cells #[.int .i64 t,.slice A3 N c3] 215)).cell? ((⟨Wb.heap.size,0,none⟩:Addr).add j) = some u :=
    World.news_of_block (cs:=#[.int .i64 t,.slice A3 N c3]) (t:=215) (fr:=(0,0)) (heap_alloc_new Wb _)
   have hone:∀ u ∈ [(.int .i64 t:Value),.slice A3 N c3],u.oneCell' = true:=by simp [Value.oneCell']
   gi_wp2_with (gi_at_builtin; refine wpListIn_append_own _ rfl (.tmp 13) (.tmp 15) 211 rfl (w.heap.size + 4) 215 i0 _ 2 32 Tryz.underlying211 hi hz0 hz1 hz2 rfl (by decide) v rs.length (recV rs) rfl (own.alloc _) ⟨Wb.heap.size,0,none⟩ 1 1 [.int .i64 t,.slice A3 N c3] rfl rfl hnews hone hr1 hr2 hr3 ?_; intro v' w1 hown' hgrow _; obtain ⟨g',cap',rfl⟩:=ownsRow_succ hown'; have x4:=hgrow.cell (cell_later (below_new' Wb _) c) (hgs.out _ (by show w.heap.size + 2 < _; omega)); have y4:=(World.frozen?_of_block (a:=⟨w.heap.size + 2,0,none⟩) (hgrow.block (w.heap.size + 2) (by simp; omega) (hgs.out _ (by omega)))).trans (free_later (below_new' Wb _) c f))
   have hba:=below_new' Wb (.cells #[.int .i64 t,.slice A3 N c3] 215)
   have stp:∀ k,k < Wb.heap.size → some k ≠ v.ownBlock → w1.heap[k]? = Wb.heap[k]?:=fun k h1 h2=>(hgrow.block k (by simp; omega) h2).trans (Below.heap_alloc Wb _ _ h1)
   have ownA:=own.alloc (.cells #[.int .i64 t,.slice A3 N c3] 215)
   obtain ⟨nv,hnv⟩:∃ nv,(.slice (some ⟨g',0,none⟩) (rs.length + 1) cap':Value) = nv:=⟨_,rfl⟩
   rw [hnv] at hown' ⊢
   have hbw1:Below w.heap.size W w1:=(hbb.alloc (Nat.le_trans hbW.size hbb.size) _).grown hgrow (by have:=hb.size; simp; omega) fun k e=>by have:=(own.lt k e).1; omega
   have hD2:DecI w (w1.setCell ⟨w.heap.size + 2,0,none⟩ nv) (rs ++ [Rc.mk t A3 N c3 vs]) nv:=by
    refine ⟨World.cell?_setCell_same w1 _ _ x4,by simp [y4],?_,?_,?_,?_,?_,?_,?_⟩
    ·rw [recV_append,List.length_append]
     exact ownsRow_setCell_below hown' (a:=⟨w.heap.size + 2,0,none⟩) (by show w.heap.size + 2 < _; omega) _
    ·intro r hr
     refine RcOwn.set ?_ (a:=⟨w.heap.size + 2,0,none⟩) (by show w.heap.size + 2 < _; omega) _
     rcases List.mem_append.1 hr with hr | hr
     ·exact ((hrs.out r hr).below hba).grown ownA (by decide) hgrow
     ·obtain rfl:=List.mem_singleton.1 hr
      exact (hrb.below hba).grown ownA (by decide) hgrow
    ·exact cell_set_other _ ((World.cell?_of_block (stp w.heap.size (by have:=hb.size; omega) (hgs.out _ (by omega)))).trans c0) (by simp)
    ·simp only [World.frozen?_setCell]; exact (World.frozen?_of_block (a:=⟨w.heap.size,0,none⟩) (stp w.heap.size (by have:=hb.size; omega) (hgs.out _ (by omega)))).trans f0
    ·exact cell_set_other _ ((World.cell?_of_block (a:=⟨w.heap.size + 1,0,none⟩) (stp (w.heap.size + 1) (by omega) (hgs.out _ (by omega)))).trans c1) (by simp)
    ·simp only [World.frozen?_setCell]; exact (World.frozen?_of_block (a:=⟨w.heap.size + 1,0,none⟩) (stp (w.heap.size + 1) (by omega) (hgs.out _ (by omega)))).trans f1
    ·exact (hbW.trans hbw1).setCell (p:=⟨w.heap.size + 2,0,none⟩) (by simp) _
   have hl2:(w1.setCell ⟨w.heap.size + 2,0,none⟩ nv).heap[Wr.heap.size + 1]? = some (.loop (LR .busy none)):=by
    rw [Below.heap_setCell _ _ _ _ (by show _ ≠ w.heap.size + 2; omega),stp _ (Array.getElem?_eq_some_iff.1 hlb).1 hgl]; exact hlb
   have hk2:(w1.setCell ⟨w.heap.size + 2,0,none⟩ nv).heap[Wr.heap.size]? = some (.deferred (some [])):=by
    rw [Below.heap_setCell _ _ _ _ (by show _ ≠ w.heap.size + 2; omega),stp _ (Array.getElem?_eq_some_iff.1 hkb).1 hgk]; exact hkb
   have hBn:((w1.setCell ⟨w.heap.size + 2,0,none⟩ nv).putObj (Wr.heap.size + 1) (.loop (LR .ready none))).heap[w.heap.size + 3]? = W.heap[w.heap.size + 3]?:=by
    rw [World.putObj_heap_other (by omega),Below.heap_setCell _ _ _ _ (by simp),stp _ (by omega) (hgs.out _ (by omega)),sb.out _ (by omega) (by omega)]
   refine ⟨hl2,rfl,⟨⟨rs ++ [Rc.mk t A3 N c3 vs],nv,by simp,hD2.put _ (by omega) hl2 rfl⟩,World.putObj_heap_same (Array.getElem?_eq_some_iff.1 hl2).1,(World.putObj_heap_other (by omega)).trans hk2⟩,
    World.cell?_of_block (a:=⟨w.heap.size + 3,0,none⟩) hBn,World.frozen?_of_block (a:=⟨w.heap.size + 3,0,none⟩) hBn,?_⟩
   exact (hbw1.setCell (p:=⟨w.heap.size + 2,0,none⟩) (by simp) _).grown (grownBy_putObj' _ _ _) (by have h1:=hbW.size; have h2:=hbw1.size; simp; omega) fun k e=>by cases e; omega
end Go.Proofs.YtehimhbgakpenaaGreat

namespace Go.Proofs.YtehimhbgakpenaaGreat
set_option linter.unusedVariables false
open Go.RowKit
def LdecPost (w:World) (bs:List UInt8) (e:Ending) (w':World):Prop :=
 ∃ v,e = .returned (.tuple #[v,.int .i64 (ldecE bs)]) ∧ LaOwn w' w.heap.size v (ldecV bs) ∧ Below w.heap.size w w'
abbrev z6:List Value:=[.int .i64 0,.int .i64 0,.int .i64 0,.bool false,.slice none 0 0,.slice none 0 0]
theorem St.set6 {W w:World} {g:Nat} {bs:List (Nat × List Value)} {rs:List (Option Addr × List Value)} {a0 a1 a2 a3 a4 a5:Value} (S:St W w ((g,[a0,a1,a2,a3,a4,a5]) :: bs) rs) (o s a:Int) (ov:Bool) (vA vB:Value) (hg:W.heap.size ≤ g) (hd:∀ x ∈ bs,x.1 ≠ g) :
  St W ((((((w.setCell ⟨g,0,none⟩ (.int .i64 o)).setCell ⟨g,1,none⟩ (.int .i64 s)).setCell ⟨g,2,none⟩ (.int .i64 a)).setCell ⟨g,3,none⟩ (.bool ov)).setCell ⟨g,4,none⟩ vA).setCell ⟨g,5,none⟩ vB) ((g,[.int .i64 o,.int .i64 s,.int .i64 a,.bool ov,vA,vB]) :: bs) rs :=
 (((((S.set 0 0 (.int .i64 o) rfl (by simp) hg hd _ rfl).set 0 1 (.int .i64 s) rfl (by simp) hg hd _ rfl).set 0 2 (.int .i64 a) rfl (by simp) hg hd _ rfl).set 0 3 (.bool ov) rfl (by simp) hg hd _ rfl).set 0 4 vA rfl (by simp) hg hd _ rfl).set 0 5 vB rfl (by simp) hg hd _ rfl
theorem own_set6 {w:World} {base:Nat} {e:TypeId} {size:Nat} {v:Value} {n:Nat} {xs:List Value} (h:w.ownsRow base e size v n xs) {g:Nat} (hg:g < base) (u0 u1 u2 u3 u4 u5:Value) :
  ((((((w.setCell ⟨g,0,none⟩ u0).setCell ⟨g,1,none⟩ u1).setCell ⟨g,2,none⟩ u2).setCell ⟨g,3,none⟩ u3).setCell ⟨g,4,none⟩ u4).setCell ⟨g,5,none⟩ u5).ownsRow base e size v n xs :=
 ownsRow_setCell_below (a:=⟨g,5,none⟩) (ownsRow_setCell_below (a:=⟨g,4,none⟩) (ownsRow_setCell_below (a:=⟨g,3,none⟩) (ownsRow_setCell_below (a:=⟨g,2,none⟩) (ownsRow_setCell_below (a:=⟨g,1,none⟩) (ownsRow_setCell_below (a:=⟨g,0,none⟩) h hg _) hg _) hg _) hg _) hg _) hg _
set_option maxRecDepth 100000 in
set_option maxHeartbeats 16000000 in
theorem ldecode_any (A:Option Addr) (n cap:Nat) (bs:List UInt8) (w:World) (hr:Bs w A bs) (hn:bs.length = n) (hcap:n ≤ cap) (hm:cap ≤ maxLen) (hn2:n ≤ 100000) :
  Calls Tryz.prog 115 #[.slice A n cap] w (LdecPost w bs):=by
 have S:St w (w.alloc (.cells #[.int .i64 0,.int .i64 0,.int .i64 0,.bool false,.slice none 0 0,.slice none 0 0] 41)) [(w.heap.size,z6)] [(A,bs.map u8v)]:=((St.start w).read hr).new #[.int .i64 0,.int .i64 0,.int .i64 0,.bool false,.slice none 0 0,.slice none 0 0] 41
 have CK:=check_any A n cap bs _ (S.r 0 rfl) hn (by omega)
 have DK:=cdecode_any A n cap bs _ (S.r 0 rfl) hn hcap hm (by omega)
 obtain ⟨E,hE⟩:∃ E,ldecE bs = E:=⟨_,rfl⟩
 obtain ⟨V,hV⟩:∃ V,ldecV bs = V:=⟨_,rfl⟩
 have hPD:LdecPost w bs = fun e w'=>∃ v,e = .returned (.tuple #[v,.int .i64 E]) ∧ LaOwn w' w.heap.size v V ∧ Below w.heap.size w w':=by subst hE hV; rfl
 rw [hPD]
 clear hPD
 replace hE:=Lib.hid hE
 replace hV:=Lib.hid hV
 replace hn:=Lib.hid hn
 by_cases hc:chk bs = false
 ·obtain rfl:E = 5:=by rw [← hE.out,ldecE_sum hc]
  obtain rfl:V = laZero:=by rw [← hV.out,ldecV_sum hc]
  rw [hc] at CK
  clear DK hc
  replace CK:=Lib.hid CK
  have hb:=S.b
  have c0:=S.c 0 0 rfl rfl
  have c1:=S.c 0 1 rfl rfl
  have c2:=S.c 0 2 rfl rfl
  have c3:=S.c 0 3 rfl rfl
  have c4:=S.c 0 4 rfl rfl
  have c5:=S.c 0 5 rfl rfl
  go_enter Tryz.func115,Tryz.ntmps115
  go_wp2_with fail
  (with_reducible refine CK.out.mono ?_)
  rintro e w1 ⟨rfl,rfl⟩
  go_wp2_with fail
  exact bodyPost_ret (v:=.tuple #[laV 0 0 0 false none 0 0 none 0 0,.int .i64 5]) (by simp [results,Tryz.results115,go_sem,c0,c1,c2,c3,c4,c5]) rfl ⟨_,rfl,laZero_own _ _,hb⟩
 have hc1:chk bs = true:=by simpa using hc
 rw [hc1] at CK
 clear hc
 replace CK:=Lib.hid CK
 replace hc1:=Lib.hid hc1
 rcases hD:decO bs with _ | l
 ·obtain rfl:E = 4:=by rw [← hE.out,ldec_no hc1.out (ldec_form hD)]
  obtain rfl:V = laZero:=by rw [← hV.out,ldecV_no (ldec_form hD)]
  have hDE:Hid (decE bs = 4):=by show _ = _; unfold decE; rw [hD]; rfl
  clear hD
  go_enter Tryz.func115,Tryz.ntmps115
  go_wp2_with fail
  (with_reducible refine CK.out.mono ?_)
  rintro e w1 ⟨rfl,rfl⟩
  go_wp2_with fail
  (with_reducible refine DK.mono ?_)
  rintro e w2 ⟨v,rs,rfl,hown,hrs,hd,hb2⟩
  rw [hDE.out]
  replace hd:=Lib.hid hd
  replace S:=S.call hb2
  have c0:=S.c 0 0 rfl rfl
  have c1:=S.c 0 1 rfl rfl
  have c2:=S.c 0 2 rfl rfl
  have c3:=S.c 0 3 rfl rfl
  have c4:=S.c 0 4 rfl rfl
  have c5:=S.c 0 5 rfl rfl
  have f0:=S.f 0 0 rfl rfl
  have f1:=S.f 0 1 rfl rfl
  have f2:=S.f 0 2 rfl rfl
  have f3:=S.f 0 3 rfl rfl
  have f4:=S.f 0 4 rfl rfl
  have f5:=S.f 0 5 rfl rfl
  go_wp2_with fail
  have S9:=S.set6 0 0 0 false (.slice none 0 0) (.slice none 0 0) (Nat.le_refl _) (by simp)
  exact bodyPost_ret (v:=.tuple #[laV 0 0 0 false none 0 0 none 0 0,.int .i64 4]) (by simp [results,Tryz.results115,go_sem,c0,c1,c2,c3,c4,c5]) rfl ⟨_,rfl,laZero_own _ _,S9.b⟩
 have hDE:Hid (decE bs = 0):=by show _ = _; unfold decE; rw [hD]; rfl
 have hDL:Hid (decL bs = l):=by show _ = _; unfold decL; rw [hD]; rfl
 have hll:=(decO_all _ bs (Nat.le_refl _) l hD).2.2
 rw [hn.out] at hll
 have hno:=fun h=>ldec_P (l:=l) hD h
 replace hno:=Lib.hid hno
 clear hD
 go_enter Tryz.func115,Tryz.ntmps115
 go_wp2_with fail
 (with_reducible refine CK.out.mono ?_)
 rintro e w1 ⟨rfl,rfl⟩
 go_wp2_with fail
 (with_reducible refine DK.mono ?_)
 rintro e w2 ⟨v,rs,rfl,hown,hrs,hd,hb2⟩
 rw [hDE.out]
 rw [hDL.out] at hd
 replace S:=S.call hb2
 have hrl:rs.length = l.length:=by rw [← hd,List.length_map]
 replace hd:=Lib.hid hd
 have hrl2:rs.length ≤ 100000:=by omega
 replace hrl:=Lib.hid hrl
 obtain ⟨A2,c2,rfl,rd2,_,_⟩:=own_rd hown
 replace hrs:=Lib.hid hrs
 clear DK CK hb2 hown
 go_wp2_with fail
 generalize (w.alloc (.cells #[.int .i64 0,.int .i64 0,.int .i64 0,.bool false,.slice none 0 0,.slice none 0 0] 41)).heap.size = base at *
 have Q0:=AccS.start w2
 generalize w2.alloc (.cells #[.int .i64 0,.int .i64 0,.int .i64 0,.bool false,.slice none 0 0,.slice none 0 0] 41) = w3 at *
 go_loopw [27] (fun v27 wr=>∃ (k:Nat) (x:La) (vA vB:Value),v27 = .int .i64 k ∧ k ≤ rs.length ∧ Hid (x = foldP laZero ((rs.take k).map dat)) ∧ x.adj.length ≤ k ∧ x.pre.length ≤ k ∧ AccS w2 wr x vA vB) (fun v27 _=>rs.length - (intOf v27).toNat)
 case atStart=>exact ⟨0,_,_,_,rfl,by omega,rfl,by simp [laZero,foldP],by simp [laZero,foldP],Q0⟩
 case round =>
  clear Q0
  obtain ⟨k,x,vA,vB,rfl,hk,hx,hxa,hxp,Q⟩:=hrel
  by_cases hkn:k < rs.length
  ·obtain ⟨b,off,rfl,c0,c1⟩:=rd_recs (rd2.below Q.b) hkn
   have htk:(rs.take (k + 1)).map dat = (rs.take k).map dat ++ [dat rs[k]]:=by rw [List.take_succ_eq_append_getElem hkn,List.map_append]; rfl
   have hrk:=(hrs.out rs[k] (List.getElem_mem hkn)).below Q.b
   generalize rs[k] = r at c0 c1 htk hrk
   have T:=AccT.start Q r hrk 215 89
   obtain ⟨t,B,m,c,y⟩:=r
   simp only at c0 c1 T
   have hstep:Hid (∀ x',x' = stepP x (t,y) → x' = foldP laZero ((rs.take (k + 1)).map dat)):=by
    rintro x' rfl
    rw [htk,foldP_snoc,hx.out]; rfl
   clear htk hrk
   by_cases h1:t = 1
   ·subst h1
    obtain ⟨y1,hy1⟩:∃ z,y.drop 2 = z:=⟨_,rfl⟩
    obtain ⟨y2,hy2⟩:∃ z,y1.drop 4 = z:=⟨_,rfl⟩
    obtain ⟨y3,hy3⟩:∃ z,y2.drop 2 = z:=⟨_,rfl⟩
    obtain ⟨y4,hy4⟩:∃ z,y3.drop 1 = z:=⟨_,rfl⟩
    obtain ⟨q0,hq0⟩:∃ z,uiN (y.take 2) = z:=⟨_,rfl⟩
    obtain ⟨q1,hq1⟩:∃ z,uiN (y1.take 4) = z:=⟨_,rfl⟩
    obtain ⟨q2,hq2⟩:∃ z,uiN (y2.take 2) = z:=⟨_,rfl⟩
    obtain ⟨q3,hq3⟩:∃ z,uiN (y3.take 1) = z:=⟨_,rfl⟩
    obtain ⟨q4,hq4⟩:∃ z,decide (q3 = 1) = z:=⟨_,rfl⟩
    replace hstep:=hstep.out _ rfl
    rw [stepP,if_pos rfl] at hstep
    simp only [hy1,hy2,hy3,hq0,hq1,hq2,hq3,hq4] at hstep
    have hbe:((q3:Int) == 1) = q4:=by rw [← hq4,Bool.eq_iff_iff]; simp; omega
    replace hstep:=Lib.hid hstep
    replace hy1:=Lib.hid hy1
    replace hy2:=Lib.hid hy2
    replace hy3:=Lib.hid hy3
    replace hy4:=Lib.hid hy4
    replace hq0:=Lib.hid hq0
    replace hq1:=Lib.hid hq1
    replace hq2:=Lib.hid hq2
    replace hq3:=Lib.hid hq3
    clear hq4
    go_wp2_with fail
    generalize (wr.alloc (.cells #[.int .i64 1,.slice B m c] 215)).alloc (.cells #[.slice B m c] 89) = w4 at *
    generalize wr.heap.size = gr at *
    clear c0 c1 Q
    (with_reducible refine (take_acc w4 2 2 rfl (by omega) q0 y1 hq0.out hy1.out T).mono ?_)
    clear T
    rintro e w5 ⟨rfl,T⟩
    go_wp2_with fail
    (with_reducible refine (take_acc w5 4 4 rfl (by omega) q1 y2 hq1.out hy2.out T).mono ?_)
    clear T
    rintro e w6 ⟨rfl,T⟩
    go_wp2_with fail
    (with_reducible refine (take_acc w6 2 2 rfl (by omega) q2 y3 hq2.out hy3.out T).mono ?_)
    clear T
    rintro e w7 ⟨rfl,T⟩
    go_wp2_with fail
    (with_reducible refine (take_acc w7 1 1 rfl (by omega) q3 y4 hq3.out hy4.out T).mono ?_)
    clear T
    rintro e w8 ⟨rfl,T⟩
    have Q:=T.acc
    have d0:=Q.box.c 0 rfl
    have d1:=Q.box.c 1 rfl
    have d2:=Q.box.c 2 rfl
    have d3:=Q.box.c 3 rfl
    have e0:=Q.box.f 0 rfl
    have e1:=Q.box.f 1 rfl
    have e2:=Q.box.f 2 rfl
    have e3:=Q.box.f 3 rfl
    have Q2:=Q.head q0 q1 q2 q4
    clear T Q
    go_wp2_with fail
    go_roundw
    case rel=>exact ⟨k + 1,_,vA,vB,by go_num,by omega,hstep,by simp only; omega,by simp only; omega,Q2⟩
    case measure=>simp [intOf]; omega
   have h1b:(t == 1) = false:=by simpa using h1
   by_cases h2:t = 2
   ·subst h2
    obtain ⟨y1,hy1⟩:∃ z,y.drop 2 = z:=⟨_,rfl⟩
    obtain ⟨y2,hy2⟩:∃ z,y1.drop 2 = z:=⟨_,rfl⟩
    obtain ⟨y3,hy3⟩:∃ z,y2.drop 2 = z:=⟨_,rfl⟩
    obtain ⟨q0,hq0⟩:∃ z,uiN (y.take 2) = z:=⟨_,rfl⟩
    obtain ⟨q1,hq1⟩:∃ z,uiN (y1.take 2) = z:=⟨_,rfl⟩
    obtain ⟨q2,hq2⟩:∃ z,uiN (y2.take 2) = z:=⟨_,rfl⟩
    replace hstep:=hstep.out _ rfl
    rw [stepP,if_neg (by simp),if_pos rfl] at hstep
    simp only [hy1,hy2,hq0,hq1,hq2] at hstep
    replace hstep:=Lib.hid hstep
    replace hy1:=Lib.hid hy1
    replace hy2:=Lib.hid hy2
    replace hy3:=Lib.hid hy3
    replace hq0:=Lib.hid hq0
    replace hq1:=Lib.hid hq1
    replace hq2:=Lib.hid hq2
    clear h1
    go_wp2_with fail
    generalize (wr.alloc (.cells #[.int .i64 2,.slice B m c] 215)).alloc (.cells #[.slice B m c] 89) = w4 at *
    generalize wr.heap.size = gr at *
    clear c0 c1 Q
    ·have d4:=T.acc.box.c 4 rfl
     have T0:=T.drew
     have f1:x.adj.length + 1 ≤ maxLen:=by simp only [maxLen]; omega
     have f2:(x.adj.length + 1) * 24 ≤ 140737488355328:=by omega
     have tok1:True:=trivial
     have tok2:True:=trivial
     have tok3:True:=trivial
     clear T
     go_region_law
      (first
       | (clear tok1; rw [if_pos (by simp [Region.wanted])]; go_simp; (with_reducible refine (take_acc _ 2 2 rfl (by omega) q0 y1 hq0.out hy1.out T0).mono ?_); rintro e w5 ⟨rfl,T1⟩; have d5:=T1.acc.box.c 4 rfl; dsimp only)
       | (clear tok2; rw [if_pos (by simp [Region.wanted])]; go_simp; (with_reducible refine (take_acc _ 2 2 rfl (by omega) q1 y2 hq1.out hy2.out T1).mono ?_); rintro e w6 ⟨rfl,T2⟩; have d6:=T2.acc.box.c 4 rfl; dsimp only)
       | (clear tok3; rw [if_pos (by simp [Region.wanted])]; go_simp; (with_reducible refine (take_acc _ 2 2 rfl (by omega) q2 y3 hq2.out hy3.out T2).mono ?_); rintro e w7 ⟨rfl,T3⟩; have d7:=T3.acc.box.c 4 rfl; have d7b:=(T3.acc.box.later (below_new' w7 (.cells #[.int .i64 (q0:Int),.int .i64 (q1:Int),.int .i64 (q2:Int)] 169))).c 4 rfl; dsimp only)
       | (have b7:=below_new' w7 (.cells #[.int .i64 (q0:Int),.int .i64 (q1:Int),.int .i64 (q2:Int)] 169); have o7:=own_below T3.acc.oA b7; have s7:w2.heap.size + 1 ≤ (w7.alloc (.cells #[.int .i64 (q0:Int),.int .i64 (q1:Int),.int .i64 (q2:Int)] 169)).heap.size:=(by have:=T3.acc.b.size; simp; omega); refine step_appG (o:=⟨some 63,_,_,_,_,_⟩) rfl adT (.tmp 54) (.tmp 62) (by rfl) (w2.heap.size + 1) (by rfl) o7 (m:=1) (by rfl) rfl (Rd.lit w7 #[.int .i64 (q0:Int),.int .i64 (q1:Int),.int .i64 (q2:Int)] 169) (by simp [Value.oneCell']) f1 f2 s7 (x.adj.length + 1) _ rfl rfl ?_; intro v8 w8 hown8 hbel8 hgr8; obtain ⟨g8,k8,rfl,_,_,_⟩:=own_form hown8 (by omega); have hne8:vA.ownBlock ≠ some w2.heap.size:=(fun e=>(by have:=(o7.lt _ e).1; omega)); have bx8:=(T3.acc.box.later b7).kept hgr8 (fun e=>hne8 e.symm) (by simp); have d8:=bx8.c 4 rfl; have e8:=bx8.f 4 rfl; have Q8:=T3.acc.addA b7 ((q0:Int),(q1:Int),(q2:Int)) hown8 hgr8))
     all_goals
      go_wp2_with fail
      go_roundw
      case rel=>exact ⟨k + 1,_,_,vB,by go_num,by omega,hstep,by simp; omega,by simp only; omega,Q8⟩
      case measure=>simp [intOf]; omega
   have h2b:(t == 2) = false:=by simpa using h2
   by_cases h3:t = 3
   ·subst h3
    obtain ⟨y1,hy1⟩:∃ z,y.drop 4 = z:=⟨_,rfl⟩
    obtain ⟨y2,hy2⟩:∃ z,y1.drop 1 = z:=⟨_,rfl⟩
    obtain ⟨q0,hq0⟩:∃ z,uiN (y.take 4) = z:=⟨_,rfl⟩
    obtain ⟨q1,hq1⟩:∃ z,uiN (y1.take 1) = z:=⟨_,rfl⟩
    replace hstep:=hstep.out _ rfl
    rw [stepP,if_neg (by simp),if_neg (by simp),if_pos rfl] at hstep
    simp only [hy1,hq0,hq1] at hstep
    have hq32:q0 < 4294967296:=by rw [← hq0]; exact uiN_lt _ (by rw [List.length_take]; omega)
    replace hstep:=Lib.hid hstep
    replace hy1:=Lib.hid hy1
    replace hy2:=Lib.hid hy2
    replace hq0:=Lib.hid hq0
    replace hq1:=Lib.hid hq1
    clear h1 h2
    go_wp2_with fail
    generalize (wr.alloc (.cells #[.int .i64 3,.slice B m c] 215)).alloc (.cells #[.slice B m c] 89) = w4 at *
    generalize wr.heap.size = gr at *
    clear c0 c1 Q
    ·have d4:=T.acc.box.c 5 rfl
     have T0:=T.drew
     have f1:x.pre.length + 1 ≤ maxLen:=by simp only [maxLen]; omega
     have f2:(x.pre.length + 1) * 16 ≤ 140737488355328:=by omega
     have hwx:IntKind.u32.wrap (q0:Int) = (q0:Int):=by rw [IntKind.wrap_u32]; omega
     have tok1:True:=trivial
     have tok2:True:=trivial
     clear T
     go_region_law
      (first
       | (clear tok1; rw [if_pos (by simp [Region.wanted])]; go_simp; (with_reducible refine (take_acc _ 4 4 rfl (by omega) q0 y1 hq0.out hy1.out T0).mono ?_); rintro e w5 ⟨rfl,T1⟩; have d5:=T1.acc.box.c 5 rfl; dsimp only)
       | (clear tok2; rw [if_pos (by simp [Region.wanted])]; go_simp; (with_reducible refine (take_acc _ 1 1 rfl (by omega) q1 y2 hq1.out hy2.out T1).mono ?_); rintro e w7 ⟨rfl,T3⟩; have d7:=T3.acc.box.c 5 rfl; have d7b:=(T3.acc.box.later (below_new' w7 (.cells #[.int .u32 (q0:Int),.int .i64 (q1:Int)] 181))).c 5 rfl; dsimp only)
       | (have b7:=below_new' w7 (.cells #[.int .u32 (q0:Int),.int .i64 (q1:Int)] 181); have o7:=own_below T3.acc.oB b7; have s7:w2.heap.size + 1 ≤ (w7.alloc (.cells #[.int .u32 (q0:Int),.int .i64 (q1:Int)] 181)).heap.size:=(by have:=T3.acc.b.size; simp; omega); refine step_appG (o:=⟨some 76,_,_,_,_,_⟩) rfl pfT (.tmp 68) (.tmp 75) (by rfl) (w2.heap.size + 1) (by rfl) o7 (m:=1) (by rfl) rfl (Rd.lit w7 #[.int .u32 (q0:Int),.int .i64 (q1:Int)] 181) (by simp [Value.oneCell']) f1 f2 s7 (x.pre.length + 1) _ rfl rfl ?_; intro v8 w8 hown8 hbel8 hgr8; obtain ⟨g8,k8,rfl,_,_,_⟩:=own_form hown8 (by omega); have hne8:vB.ownBlock ≠ some w2.heap.size:=(fun e=>(by have:=(o7.lt _ e).1; omega)); have bx8:=(T3.acc.box.later b7).kept hgr8 (fun e=>hne8 e.symm) (by simp); have d8:=bx8.c 5 rfl; have e8:=bx8.f 5 rfl; have Q8:=T3.acc.addB b7 (q0,(q1:Int)) hq32 hown8 hgr8))
     all_goals
      go_wp2_with fail
      go_roundw
      case rel=>exact ⟨k + 1,_,vA,_,by go_num,by omega,hstep,by simp only; omega,by simp; omega,Q8⟩
      case measure=>simp [intOf]; omega
   have h3b:(t == 3) = false:=by simpa using h3
   replace hstep:=hstep.out _ rfl
   rw [stepP,if_neg h1,if_neg h2,if_neg h3] at hstep
   replace hstep:=Lib.hid hstep
   clear h1 h2 h3
   go_wp2_with fail
   go_roundw
   case rel=>exact ⟨k + 1,_,vA,vB,by go_num,by omega,hstep,by omega,by omega,T.acc⟩
   case measure=>simp [intOf]; omega
  ·obtain rfl:k = rs.length:=by omega
   rw [List.take_length] at hx
   rw [hd.out] at hx
   obtain ⟨A1,a1,rfl,rdA,hca,hma⟩:=own_rd Q.oA
   obtain ⟨B1,b1,rfl,rdB,hcb,hmb⟩:=own_rd Q.oB
   have LE:=lencode_any x.o x.s x.a x.ov x.adj x.pre A1 x.adj.length a1 B1 x.pre.length b1 wr rfl rfl rdA rdB Q.u
   rw [show (⟨x.o,x.s,x.a,x.ov,x.adj,x.pre⟩:La) = x from rfl] at LE
   have S2:=S.call Q.b
   have c0:=Q.box.c 0 rfl
   have c1:=Q.box.c 1 rfl
   have c2:=Q.box.c 2 rfl
   have c3:=Q.box.c 3 rfl
   have c4:=Q.box.c 4 rfl
   have c5:=Q.box.c 5 rfl
   clear rd2 hrs rdA rdB
   by_cases hv:LaValid x
   rotate_left
   ·have hnd:¬ DecIs bs (foldP laZero l):=fun h=>hv (hx.out ▸ h.1.1)
    obtain rfl:E = 4:=by rw [← hE.out,ldec_no hc1.out (hno.out hnd)]
    obtain rfl:V = laZero:=by rw [← hV.out,ldecV_no (hno.out hnd)]
    have e1:lencE x = 1:=by unfold lencE; rw [vB_f hv]; rfl
    rw [e1] at LE
    clear e1 hnd
    replace LE:=Lib.hid LE
    replace hv:=Lib.hid hv
    go_wp2_with fail
    (with_reducible refine LE.out.mono ?_)
    rintro e w4 ⟨v4,rfl,hown4,hb4⟩
    replace S2:=S2.call hb4
    clear c0 c1 c2 c3 c4 c5 LE
    have c0:=S2.c 0 0 rfl rfl
    have c1:=S2.c 0 1 rfl rfl
    have c2:=S2.c 0 2 rfl rfl
    have c3:=S2.c 0 3 rfl rfl
    have c4:=S2.c 0 4 rfl rfl
    have c5:=S2.c 0 5 rfl rfl
    have f0:=S2.f 0 0 rfl rfl
    have f1:=S2.f 0 1 rfl rfl
    have f2:=S2.f 0 2 rfl rfl
    have f3:=S2.f 0 3 rfl rfl
    have f4:=S2.f 0 4 rfl rfl
    have f5:=S2.f 0 5 rfl rfl
    go_wp2_with fail
    have S9:=S2.set6 0 0 0 false (.slice none 0 0) (.slice none 0 0) (Nat.le_refl _) (by simp)
    exact bodyPost_ret (v:=.tuple #[laV 0 0 0 false none 0 0 none 0 0,.int .i64 4]) (by simp [results,Tryz.results115,go_sem,c0,c1,c2,c3,c4,c5]) rfl ⟨_,rfl,laZero_own _ _,S9.b⟩
   have e1:lencE x = 0:=by unfold lencE; rw [vB_t hv]; rfl
   have e2:lencB x = laEnc x:=by unfold lencB; rw [vB_t hv]; rfl
   rw [e1,e2] at LE
   clear e1 e2
   replace LE:=Lib.hid LE
   replace hv:=Lib.hid hv
   go_wp2_with fail
   (with_reducible refine LE.out.mono ?_)
   rintro e w4 ⟨v4,rfl,hown4,hb4⟩
   replace S2:=S2.call hb4
   replace Q:=Q.call hb4
   obtain ⟨A4,a4,rfl,rd4,_,_⟩:=own_rd hown4
   have BE:=bequal_any A4 A (laEnc x).length n a4 cap (laEnc x) bs w4 rd4 (S2.r 0 rfl) rfl hn.out
   clear LE c0 c1 c2 c3 c4 c5 rd4 hown4
   have c0:=S2.c 0 0 rfl rfl
   have c1:=S2.c 0 1 rfl rfl
   have c2:=S2.c 0 2 rfl rfl
   have c3:=S2.c 0 3 rfl rfl
   have c4:=S2.c 0 4 rfl rfl
   have c5:=S2.c 0 5 rfl rfl
   have f0:=S2.f 0 0 rfl rfl
   have f1:=S2.f 0 1 rfl rfl
   have f2:=S2.f 0 2 rfl rfl
   have f3:=S2.f 0 3 rfl rfl
   have f4:=S2.f 0 4 rfl rfl
   have f5:=S2.f 0 5 rfl rfl
   by_cases he:laEnc x = bs
   ·have hyes:DecIs bs x:=⟨⟨hv.out,Q.u⟩,he⟩
    obtain rfl:E = 0:=by rw [← hE.out,(ldec_yes hyes).1]
    obtain rfl:V = x:=by rw [← hV.out,(ldec_yes hyes).2]
    rw [decide_eq_true he] at BE
    clear he hyes
    replace BE:=Lib.hid BE
    replace hx:=Lib.hid hx
    have d0:=Q.box.c 0 rfl
    have d1:=Q.box.c 1 rfl
    have d2:=Q.box.c 2 rfl
    have d3:=Q.box.c 3 rfl
    have d4:=Q.box.c 4 rfl
    have d5:=Q.box.c 5 rfl
    go_wp2_with fail
    (with_reducible refine BE.out.mono ?_)
    rintro e w5 ⟨rfl,rfl⟩
    go_wp2_with fail
    have S9:=S2.set6 V.o V.s V.a V.ov (.slice A1 V.adj.length a1) (.slice B1 V.pre.length b1) (Nat.le_refl _) (by simp)
    have hlt:w.heap.size < w2.heap.size + 1:=by have:=S.b.size; omega
    refine bodyPost_ret (v:=.tuple #[laV V.o V.s V.a V.ov A1 V.adj.length a1 B1 V.pre.length b1,.int .i64 0]) (by simp [results,Tryz.results115,go_sem,c0,c1,c2,c3,c4,c5]) rfl ⟨_,rfl,⟨A1,a1,B1,b1,rfl,?_,?_,Q.u⟩,S9.b⟩
    ·exact own_mono (own_set6 Q.oA hlt _ _ _ _ _ _) (Nat.le_of_lt hlt)
    ·exact own_mono (own_set6 Q.oB hlt _ _ _ _ _ _) (Nat.le_of_lt hlt)
   ·have hnd:¬ DecIs bs (foldP laZero l):=fun h=>he (hx.out ▸ h.2)
    obtain rfl:E = 4:=by rw [← hE.out,ldec_no hc1.out (hno.out hnd)]
    obtain rfl:V = laZero:=by rw [← hV.out,ldecV_no (hno.out hnd)]
    rw [decide_eq_false he] at BE
    clear he hnd
    replace BE:=Lib.hid BE
    go_wp2_with fail
    (with_reducible refine BE.out.mono ?_)
    rintro e w5 ⟨rfl,rfl⟩
    go_wp2_with fail
    have S9:=S2.set6 0 0 0 false (.slice none 0 0) (.slice none 0 0) (Nat.le_refl _) (by simp)
    exact bodyPost_ret (v:=.tuple #[laV 0 0 0 false none 0 0 none 0 0,.int .i64 4]) (by simp [results,Tryz.results115,go_sem,c0,c1,c2,c3,c4,c5]) rfl ⟨_,rfl,laZero_own _ _,S9.b⟩
end Go.Proofs.YtehimhbgakpenaaGreat
