/-
  The texts Acc, Beq, one after the other.
-/
import Derived.Test.YtehimhbgakpenaaGreatQPWith5
import Derived.Test.YtehimhbgakpenaaGreatQPWith1
namespace Go.Proofs.YtehimhbgakpenaaGreat
set_option linter.unusedVariables false
open Go.RowKit
structure AccS (W0 w:World) (x:La) (vA vB:Value):Prop where
 b:Below W0.heap.size W0 w
 box:Box w W0.heap.size [.int .i64 x.o,.int .i64 x.s,.int .i64 x.a,.bool x.ov,vA,vB]
 oA:w.ownsRow (W0.heap.size + 1) 169 3 vA x.adj.length (adV x.adj)
 oB:w.ownsRow (W0.heap.size + 1) 181 2 vB x.pre.length (pfV x.pre)
 u:∀ p ∈ x.pre,p.1 < 4294967296
theorem own_lt2' {w:World} {base:Nat} {e:TypeId} {size:Nat} {v:Value} {n:Nat} {xs:List Value} (h:w.ownsRow base e size v n xs) {g:Nat} (hg:w.heap.size ≤ g):v.ownBlock ≠ some g:=fun e=>by
 have:=(h.lt g e).2
 omega
section
variable {W0 w w' w1 w2:World} {x:La} {vA vB:Value} {g:Nat} {bs:List UInt8}
theorem AccS.call (h:AccS W0 w x vA vB) (hb:Below w.heap.size w w'):AccS W0 w' x vA vB :=
 ⟨h.b.trans (hb.mono h.b.size),h.box.later hb,own_below h.oA hb,own_below h.oB hb,h.u⟩
theorem AccS.drew (h:AccS W0 w x vA vB):AccS W0 w.drew x vA vB:=⟨h.b.drew,h.box,h.oA,h.oB,h.u⟩
theorem AccS.far (h:AccS W0 w x vA vB) (hg:W0.heap.size < g) (hA:vA.ownBlock ≠ some g) (hB:vB.ownBlock ≠ some g) (u:Value):AccS W0 (w.setCell ⟨g,0,none⟩ u) x vA vB :=
 ⟨h.b.setCell (p:=⟨g,0,none⟩) (Nat.le_of_lt hg) u,h.box.far u (by simp only; omega),h.oA.kept (grownBy_set w g 0 u) (.inr hA),h.oB.kept (grownBy_set w g 0 u) (.inr hB),h.u⟩
theorem AccS.start (W:World):AccS W (W.alloc (.cells #[.int .i64 0,.int .i64 0,.int .i64 0,.bool false,.slice none 0 0,.slice none 0 0] 41)) laZero (.slice none 0 0) (.slice none 0 0) :=
 ⟨below_new' W _,Box.new W #[.int .i64 0,.int .i64 0,.int .i64 0,.bool false,.slice none 0 0,.slice none 0 0] _,World.ownsRow_nil _ _ _ _,World.ownsRow_nil _ _ _ _,by simp [laZero]⟩
theorem AccS.head (h:AccS W0 w x vA vB) (o s a:Int) (ov:Bool) :
  AccS W0 ((((w.setCell ⟨W0.heap.size,0,none⟩ (.int .i64 o)).setCell ⟨W0.heap.size,1,none⟩ (.int .i64 s)).setCell ⟨W0.heap.size,2,none⟩ (.int .i64 a)).setCell ⟨W0.heap.size,3,none⟩ (.bool ov)) { x with o:=o,s:=s,a:=a,ov:=ov } vA vB:=by
 have k:∀ (w:World) (v:Value) (j:Nat) (u:Value) {e:TypeId} {sz n:Nat} {xs:List Value},w.ownsRow (W0.heap.size + 1) e sz v n xs → (w.setCell ⟨W0.heap.size,j,none⟩ u).ownsRow (W0.heap.size + 1) e sz v n xs :=
  fun w v j u _ _ _ _ h=>ownsRow_setCell_below h (Nat.lt_succ_self _) u
 have hb:=h.box
 refine ⟨(((h.b.setCell (p:=⟨_,_,none⟩) (Nat.le_refl _) _).setCell (p:=⟨_,_,none⟩) (Nat.le_refl _) _).setCell (p:=⟨_,_,none⟩) (Nat.le_refl _) _).setCell (p:=⟨_,_,none⟩) (Nat.le_refl _) _,?_,k _ _ _ _ (k _ _ _ _ (k _ _ _ _ (k _ _ _ _ h.oA))),k _ _ _ _ (k _ _ _ _ (k _ _ _ _ (k _ _ _ _ h.oB))),h.u⟩
 exact (((hb.set 0 (.int .i64 o) (by simp)).set 1 (.int .i64 s) (by simp)).set 2 (.int .i64 a) (by simp)).set 3 (.bool ov) (by simp)
theorem AccS.addA (h:AccS W0 w x vA vB) (hb:Below w.heap.size w w1) {vA':Value} (z:Ad) (ho:w2.ownsRow (W0.heap.size + 1) 169 3 vA' (x.adj.length + 1) (adV x.adj ++ [.int .i64 z.1,.int .i64 z.2.1,.int .i64 z.2.2])) (hg:w1.grownBy w2 vA.ownBlock) :
  AccS W0 (w2.setCell ⟨W0.heap.size,4,none⟩ vA') { x with adj:=x.adj ++ [z] } vA' vB:=by
 have h1:=h.call hb
 have hne:vA.ownBlock ≠ some W0.heap.size:=fun e=>by have:=(h1.oA.lt _ e).1; omega
 have k1:=h1.box.kept hg (fun e=>hne e.symm) (by simp)
 refine ⟨(below_own h1.b h1.oA hg (by omega) h1.b.size).setCell (p:=⟨_,_,none⟩) (Nat.le_refl _) _,?_,?_,?_,h.u⟩
 ·exact k1.set 4 vA' (by simp)
 ·rw [adV_append,List.length_append]
  exact ownsRow_setCell_below ho (Nat.lt_succ_self _) _
 ·exact ownsRow_setCell_below (h1.oB.kept hg (own_ne h1.oB h1.oA (by decide))) (Nat.lt_succ_self _) _
theorem AccS.addB (h:AccS W0 w x vA vB) (hb:Below w.heap.size w w1) {vB':Value} (z:Pf) (hz:z.1 < 4294967296) (ho:w2.ownsRow (W0.heap.size + 1) 181 2 vB' (x.pre.length + 1) (pfV x.pre ++ [.int .u32 (z.1:Int),.int .i64 z.2])) (hg:w1.grownBy w2 vB.ownBlock) :
  AccS W0 (w2.setCell ⟨W0.heap.size,5,none⟩ vB') { x with pre:=x.pre ++ [z] } vA vB':=by
 have h1:=h.call hb
 have hne:vB.ownBlock ≠ some W0.heap.size:=fun e=>by have:=(h1.oB.lt _ e).1; omega
 have k1:=h1.box.kept hg (fun e=>hne e.symm) (by simp)
 refine ⟨(below_own h1.b h1.oB hg (by omega) h1.b.size).setCell (p:=⟨_,_,none⟩) (Nat.le_refl _) _,?_,?_,?_,?_⟩
 ·exact k1.set 5 vB' (by simp)
 ·exact ownsRow_setCell_below (h1.oA.kept hg (own_ne h1.oA h1.oB (by decide))) (Nat.lt_succ_self _) _
 ·rw [pfV_append,List.length_append]
  exact ownsRow_setCell_below ho (Nat.lt_succ_self _) _
 ·intro p hp
  rcases List.mem_append.1 hp with hp | hp
  ·exact h.u p hp
  ·obtain rfl:=List.mem_singleton.1 hp
   exact hz
structure AccT (W0 w:World) (x:La) (vA vB:Value) (g:Nat) (bs:List UInt8):Prop where
 acc:AccS W0 w x vA vB
 tak:∃ X m c,TakS w g bs X m c
 lt:W0.heap.size < g
 fA:vA.ownBlock ≠ some g
 fB:vB.ownBlock ≠ some g
theorem AccT.drew (h:AccT W0 w x vA vB g bs):AccT W0 w.drew x vA vB g bs:=by
 obtain ⟨h1,⟨X,m,c,t⟩,h2,h3,h4⟩:=h
 exact ⟨h1.drew,⟨X,m,c,t.cel,t.frz,t.rd,t.len,t.mc,t.cm,t.far⟩,h2,h3,h4⟩
theorem take_acc (w:World) (z:Int) (k:Nat) (hz:z = k) (hk:k ≤ 4) (q:Nat) (bs2:List UInt8) (hq:uiN (bs.take k) = q) (hb:bs.drop k = bs2) (h:AccT W0 w x vA vB g bs) :
  Calls Tryz.prog 160 #[.int .i64 z,.pointer (some ⟨g,0,none⟩)] w fun e w'=>e = .returned (.int .i64 q) ∧ AccT W0 w' x vA vB g bs2:=by
 subst hz hq hb
 obtain ⟨h1,⟨X,m,c,t⟩,h2,h3,h4⟩:=h
 refine (take_any w g bs X m c k t hk).mono ?_
 rintro e w' ⟨he,rfl,ht⟩
 exact ⟨he,h1.far h2 h3 h4 _,⟨_,_,_,ht⟩,h2,h3,h4⟩
theorem AccT.start (h:AccS W0 w x vA vB) (r:Rc) {base:Nat} (hr:RcOwn w base 5 r) (t1 t2:TypeId) :
  AccT W0 ((w.alloc (.cells #[.int .i64 r.t,.slice r.A r.n r.c] t1)).alloc (.cells #[.slice r.A r.n r.c] t2)) x vA vB (w.heap.size + 1) r.bs:=by
 have hb1:=below_new' w (.cells #[.int .i64 r.t,.slice r.A r.n r.c] t1)
 have hb2:=hb1.trans ((below_new' (w.alloc (.cells #[.int .i64 r.t,.slice r.A r.n r.c] t1)) (.cells #[.slice r.A r.n r.c] t2)).mono hb1.size)
 have hs:=h.b.size
 have hok:=(hr.below hb2).ok
 have bx:=Box.new (w.alloc (.cells #[.int .i64 r.t,.slice r.A r.n r.c] t1)) #[.slice r.A r.n r.c] t2
 rw [World.size_alloc] at bx
 refine ⟨h.call hb2,⟨r.A,r.n,r.c,bx.c 0 rfl,bx.f 0 rfl,hok.rd,hok.len,hok.nc,hok.cm,?_⟩,by omega,own_lt2' h.oA (by omega),own_lt2' h.oB (by omega)⟩
 intro ad e
 rcases hr.2 with ⟨e2,_⟩ | ⟨g',cap,cur,e2,_,hh,_⟩
 ·rw [e] at e2; cases e2
 ·rw [e] at e2
  simp only [Value.slice.injEq,Option.some.injEq] at e2
  obtain ⟨rfl,_⟩:=e2
  have:=(Array.getElem?_eq_some_iff.1 hh).1
  simp only; omega
end
end Go.Proofs.YtehimhbgakpenaaGreat

namespace Go.Proofs.YtehimhbgakpenaaGreat
set_option linter.unusedVariables false
open Go.RowKit
set_option maxHeartbeats 800000 in
theorem bequal_any (A B:Option Addr) (n m c d:Nat) (xs bs:List UInt8) (w:World) (ha:Bs w A xs) (hb:Bs w B bs) (hn:xs.length = n) (hm:bs.length = m) :
  Calls Tryz.prog 161 #[.slice A n c,.slice B m d] w fun e w'=>e = .returned (.bool (decide (xs = bs))) ∧ w = w':=by
 have cv:=conv_bytes (P:=Tryz.prog) w (src:=89) (dst:=9) (e:=5) Tryz.underlying89 Tryz.underlying5 Tryz.underlying9 (cap:=c) ha hn
 have cv2:=conv_bytes (P:=Tryz.prog) w (src:=89) (dst:=9) (e:=5) Tryz.underlying89 Tryz.underlying5 Tryz.underlying9 (cap:=d) hb hm
 clear ha hb hn hm
 go_enter Tryz.func161,Tryz.ntmps161
 go_wp2_with fail
 go_ret
 exact ⟨ret_bool (by rw [Bool.eq_iff_iff]; simp),rfl⟩
end Go.Proofs.YtehimhbgakpenaaGreat
