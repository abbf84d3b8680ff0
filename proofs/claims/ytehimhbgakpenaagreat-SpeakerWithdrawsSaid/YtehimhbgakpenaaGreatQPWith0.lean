/-
  The texts Mem, Open, Frame, one after the other.
-/
import Derived.WalkKit
import Derived.WalkSpells
import Derived.WalkLawsBesides
import Derived.Lib.Hide
import Derived.Deep.QuietTactic
import Derived.BigQuiet
import Derived.Maps.AppendAt
import Derived.ProofKit
import Derived.OpenShut
import Derived.ShutString
import Derived.ChangeOld
import Derived.Test.YtehimhbgakpenaaGreatRows
namespace Go.Proofs.YtehimhbgakpenaaGreat
set_option linter.unusedVariables false
open Go.RowKit
theorem quietL {P:Program} {f:FuncId} {args:Array Value} {w:World} {n:Nat} {v:Value}
  (h:Calls P f args (w.drewN n) fun e w'=>e = .returned v ∧ w.drewN n = w'):Calls P f args (w.drewN n) fun e w''=>e = .returned v ∧ ∃ m,w'' = w.drewN m :=
 h.mono fun _ _ ⟨he,hm⟩=>⟨he,n,hm.symm⟩
theorem below_drewN {B:Nat} {a w:World} (h:Below B a w) (n:Nat):Below B a (w.drewN n):=⟨h.os,h.tape,h.output,h.size,h.block⟩
theorem ret_bool {a b:Bool} (h:a = b):Ending.returned (.bool a) = Ending.returned (.bool b):=by rw [h]
theorem ret_int {k:IntKind} {a b:Int} (h:a = b):Ending.returned (.int k a) = Ending.returned (.int k b):=by rw [h]
theorem free_later {w wx:World} {a:Addr} {v:Value} (hb:Below w.heap.size w wx) (h:w.cell? a = some v) (hf:w.frozen? a = false):wx.frozen? a = false :=
 (hb.frozen (World.block_lt_of_cell? _ _ h)).trans hf
def u8v (b:UInt8):Value:=.int .u8 (b.toNat:Int)
def Rd (w:World) (A:Option Addr) (xs:List Value):Prop :=
 0 < xs.length → ∃ ad,A = some ad ∧ ∀ j u,xs[j]? = some u → w.cell? (ad.add j) = some u
theorem addr_add_block (a:Addr) (n:Nat):(a.add n).block = a.block:=by unfold Addr.add; split <;> rfl
theorem addr_add_add (a:Addr) (i j:Nat):(a.add i).add j = a.add (i + j):=by
 unfold Addr.add
 by_cases hi:i = 0 <;> by_cases hj:j = 0 <;> simp [hi,hj,Nat.add_assoc]
section
variable {w w':World} {A:Option Addr} {xs:List Value}
theorem Rd.nil (w:World) (A:Option Addr):Rd w A []:=fun h=>absurd h (by simp)
theorem Rd.nil_len (h:Rd w none xs):xs.length = 0:=by
 rcases Nat.eq_zero_or_pos xs.length with h0 | h0
 ·exact h0
 ·obtain ⟨_,e,_⟩:=h h0
  cases e
theorem Rd.get (h:Rd w A xs) {k:Nat} (hk:k < xs.length):∃ ad,A = some ad ∧ w.cell? (ad.add k) = some xs[k]:=by
 obtain ⟨ad,e,hc⟩:=h (by omega)
 exact ⟨ad,e,hc k _ (List.getElem?_eq_getElem hk)⟩
theorem Rd.block (h:Rd w A xs) (hn:0 < xs.length):∃ ad,A = some ad ∧ ad.block < w.heap.size:=by
 obtain ⟨ad,e,hc⟩:=h.get hn
 refine ⟨ad,e,?_⟩
 have:=World.block_lt_of_cell? w _ hc
 rwa [addr_add_block] at this
theorem Rd.keep (h:Rd w A xs) (hk:∀ p:Addr,p.block < w.heap.size → w'.cell? p = w.cell? p):Rd w' A xs:=by
 intro hn
 obtain ⟨ad,e,hb⟩:=h.block hn
 obtain ⟨ad',e',hc⟩:=h hn
 rw [e] at e'
 injection e' with e'
 subst e'
 exact ⟨ad,e,fun j u hu=>(hk _ (by rw [addr_add_block]; exact hb)).trans (hc j u hu)⟩
theorem Rd.below (h:Rd w A xs) (hb:Below w.heap.size w w'):Rd w' A xs:=h.keep fun _ hp=>hb.cell hp
theorem Rd.drew (h:Rd w A xs):Rd w.drew A xs:=h
theorem Rd.drop (h:Rd w A xs) (k:Nat):Rd w (A.map (·.add k)) (xs.drop k):=by
 intro hn
 rw [List.length_drop] at hn
 obtain ⟨ad,e,hc⟩:=h (by omega)
 refine ⟨ad.add k,by rw [e]; rfl,fun j u hu=>?_⟩
 rw [addr_add_add]
 rw [List.getElem?_drop] at hu
 exact hc _ _ hu
theorem Rd.take (h:Rd w A xs) (k:Nat):Rd w A (xs.take k):=by
 intro hn
 rw [List.length_take] at hn
 obtain ⟨ad,e,hc⟩:=h (by omega)
 refine ⟨ad,e,fun j u hu=>?_⟩
 rw [List.getElem?_take] at hu
 split at hu
 ·exact hc _ _ hu
 ·cases hu
end
abbrev Bs (w:World) (A:Option Addr) (bs:List UInt8):Prop:=Rd w A (bs.map u8v)
theorem Bs.get {w:World} {A:Option Addr} {bs:List UInt8} (h:Bs w A bs) {k:Nat} (hk:k < bs.length) :
  ∃ ad,A = some ad ∧ w.cell? (ad.add k) = some (.int .u8 (bs[k].toNat:Int)):=by
 obtain ⟨ad,e,hc⟩:=Rd.get h (k:=k) (by simpa using hk)
 exact ⟨ad,e,by simpa [u8v] using hc⟩
theorem below_new' (w:World) (o:Obj):Below w.heap.size w (w.alloc o):=(Below.refl _ _).alloc (Nat.le_refl _) o
def Box (w:World) (g:Nat) (cs:List Value):Prop:=∀ i u,cs[i]? = some u → w.cell? ⟨g,i,none⟩ = some u ∧ w.frozen? ⟨g,i,none⟩ = false
theorem Box.new (w:World) (cs:Array Value) (t:TypeId):Box (w.alloc (.cells cs t)) w.heap.size cs.toList:=by
 intro i u hu
 refine ⟨?_,by simp⟩
 rw [cell_of_row _ _ _ _ _ _ (heap_alloc_new w _)]
 simpa using hu
theorem Box.new' (w:World) (cs:Array Value) (t:TypeId) (g:Nat) (l:List Value) (hg:w.heap.size = g) (hl:cs.toList = l):Box (w.alloc (.cells cs t)) g l:=by
 subst hg hl; exact Box.new w cs t
theorem cell_far {w:World} {p q:Addr} (u:Value) (h:p ≠ q):(w.setCell p u).cell? q = w.cell? q:=World.cell?_setCell_other w p q u h
section
variable {w w':World} {g:Nat} {cs:List Value}
theorem Box.c (h:Box w g cs) (i:Nat) {u:Value} (hu:cs[i]? = some u):w.cell? ⟨g,i,none⟩ = some u:=(h i u hu).1
theorem Box.f (h:Box w g cs) (i:Nat) {u:Value} (hu:cs[i]? = some u):w.frozen? ⟨g,i,none⟩ = false:=(h i u hu).2
theorem Box.later (h:Box w g cs) (hb:Below w.heap.size w w'):Box w' g cs:=fun i u hu=>⟨cell_later hb (h i u hu).1,free_later hb (h i u hu).1 (h i u hu).2⟩
theorem Box.alloc (h:Box w g cs) (o:Obj):Box (w.alloc o) g cs:=h.later ((Below.refl _ _).alloc (Nat.le_refl _) o)
theorem Box.drew (h:Box w g cs):Box w.drew g cs:=h
theorem Box.lt (h:Box w g cs) (hn:0 < cs.length):g < w.heap.size:=World.block_lt_of_cell? _ _ (h 0 _ (List.getElem?_eq_getElem hn)).1
theorem Box.far (h:Box w g cs) {p:Addr} (u:Value) (hk:p.block ≠ g):Box (w.setCell p u) g cs :=
 fun i v hv=>⟨(cell_far u (fun e=>hk (by rw [e]))).trans (h i v hv).1,by simp [(h i v hv).2]⟩
theorem Box.set (h:Box w g cs) (i:Nat) (u:Value) (hi:i < cs.length):Box (w.setCell ⟨g,i,none⟩ u) g (cs.set i u):=by
 intro j v hv
 by_cases hij:i = j
 ·subst hij
  rw [List.getElem?_set_self hi] at hv
  injection hv with hv
  subst hv
  have h0:=h i _ (List.getElem?_eq_getElem hi)
  exact ⟨World.cell?_setCell_same w _ u h0.1,by simp [h0.2]⟩
 ·rw [List.getElem?_set_ne hij] at hv
  exact ⟨(cell_far u (by intro e; injection e with _ e2; exact hij e2)).trans (h j v hv).1,by simp [(h j v hv).2]⟩
end
structure ElemT (P:Program) (t e:TypeId) (z:Value) (size bytes:Nat):Prop where
 under:P.underlying t = some (.slice e)
 info:(P.info? e).map (fun i=>(i.zero,i.size,i.bytes)) = some (some z,size,bytes)
 zsize:z.cells.size = size
 pos:0 < size
theorem own_mono {w:World} {base base':Nat} {e:TypeId} {size:Nat} {v:Value} {n:Nat} {xs:List Value} (h:w.ownsRow base' e size v n xs) (hb:base ≤ base'):w.ownsRow base e size v n xs:=by
 refine ⟨h.1,?_⟩
 rcases h.2 with h2 | ⟨g,cap,cur,hv,hg,r⟩
 ·exact .inl h2
 ·exact .inr ⟨g,cap,cur,hv,by omega,r⟩
theorem own_rd {w:World} {base:Nat} {e:TypeId} {size:Nat} {v:Value} {n:Nat} {xs:List Value} (h:w.ownsRow base e size v n xs) :
  ∃ A c,v = .slice A n c ∧ Rd w A xs ∧ n ≤ c ∧ c ≤ maxLen:=by
 rcases h.2 with ⟨rfl,rfl⟩ | ⟨g,cap,cur,rfl,hg,hh,hn,hm,_⟩
 ·have hx:xs = []:=List.eq_nil_of_length_eq_zero (by simpa using h.1)
  subst hx
  exact ⟨none,0,rfl,Rd.nil _ _,Nat.le_refl _,Nat.zero_le _⟩
 ·exact ⟨_,cap,rfl,fun _=>⟨_,rfl,h.cells (g:=g) rfl⟩,hn,hm⟩
theorem own_form {w:World} {base:Nat} {e:TypeId} {size:Nat} {v:Value} {n:Nat} {xs:List Value} (h:w.ownsRow base e size v n xs) (hn:0 < n) :
  ∃ g cap,v = .slice (some ⟨g,0,none⟩) n cap ∧ base ≤ g ∧ g < w.heap.size ∧ w.ownsRow base e size (.slice (some ⟨g,0,none⟩) n cap) n xs:=by
 have h0:=h
 rcases h.2 with ⟨rfl,rfl⟩ | ⟨g,cap,cur,rfl,hg,hh,_⟩
 ·omega
 ·exact ⟨g,cap,rfl,hg,(h0.lt g rfl).2,h0⟩
theorem own_ne {w:World} {b1 b2:Nat} {e1 e2:TypeId} {s1 s2:Nat} {v1 v2:Value} {n1 n2:Nat} {x1 x2:List Value} (h1:w.ownsRow b1 e1 s1 v1 n1 x1) (h2:w.ownsRow b2 e2 s2 v2 n2 x2) (hne:e1 ≠ e2) :
  v1.ownBlock = none ∨ v1.ownBlock ≠ v2.ownBlock:=by
 rcases h1.2 with ⟨rfl,_⟩ | ⟨g,cap,cur,rfl,_,hh,_⟩
 ·exact .inl rfl
 ·right
  rcases h2.2 with ⟨rfl,_⟩ | ⟨g2,cap2,cur2,rfl,_,hh2,_⟩
  ·simp [Value.ownBlock]
  ·intro e
   simp only [Value.ownBlock,Option.some.injEq] at e
   subst e
   rw [hh] at hh2
   injection hh2 with hh2
   injection hh2 with _ h3
   exact hne h3
theorem own_below {w w':World} {base:Nat} {e:TypeId} {size:Nat} {v:Value} {n:Nat} {xs:List Value} (h:w.ownsRow base e size v n xs) (hb:Below w.heap.size w w'):w'.ownsRow base e size v n xs:=by
 refine ⟨h.1,?_⟩
 rcases h.2 with h2 | ⟨g,cap,cur,rfl,hg,hh,r⟩
 ·exact .inl h2
 ·exact .inr ⟨g,cap,cur,rfl,hg,(hb.block g (h.lt g rfl).2).trans hh,r⟩
section
variable {P:Program} {t e:TypeId} {z:Value} {size bytes:Nat}
theorem run_append_nil' (w:World) (hE:ElemT P t e z size bytes) (ty:TypeId) (base:Nat) {v:Value} {n:Nat} {xs:List Value} (hown:w.ownsRow base e size v n xs) (c:Nat) :
  (Builtin.append_ #[t,t] ty #[v,.slice none 0 c]).run P w = .ok v w:=by
 obtain ⟨i,hi,_,_,_⟩:=info_parts hE.info
 rcases hown.2 with ⟨rfl,rfl⟩ | ⟨g,cap,cur,rfl,_,_,hnc,_⟩
 ·simp [Builtin.append_,run_underlying hE.under,sizeOf,typeInfo,hi,Builtin.lenOf,Builtin.firstCells]
 ·simp [Builtin.append_,run_underlying hE.under,sizeOf,typeInfo,hi,Builtin.lenOf,Builtin.firstCells,hnc,storeCells]
theorem run_app (w:World) (hE:ElemT P t e z size bytes) (ty:TypeId) (base:Nat) {v:Value} {n:Nat} {xs:List Value} (hown:w.ownsRow base e size v n xs)
  {A:Option Addr} {m c:Nat} {news:List Value} (hl:news.length = m * size) (hr:Rd w A news) (h1:∀ u ∈ news,u.oneCell' = true)
  (h63:n + m ≤ maxLen) (hbytes:(n + m) * bytes ≤ 140737488355328) (hbase:base ≤ w.heap.size) :
  ∃ v' w',(Builtin.append_ #[t,t] ty #[v,.slice A m c]).run P w = .ok v' w' ∧ w'.ownsRow base e size v' (n + m) (xs ++ news) ∧ w.grownBy w' v.ownBlock ∧
    (v'.ownBlock = v.ownBlock ∨ v'.ownBlock = some w.heap.size):=by
 obtain ⟨i,hi,hz0,hz1,hz2⟩:=info_parts hE.info
 have hm:A = none → m = 0:=by
  rintro rfl
  rcases Nat.eq_zero_or_pos m with h0 | h0
  ·exact h0
  ·obtain ⟨ad,h,_⟩:=hr (by rw [hl]; exact Nat.mul_pos h0 hE.pos)
   cases h
 rcases A with _ | ad
 ·obtain rfl:=hm rfl
  have hn:news = []:=List.eq_nil_of_length_eq_zero (by simpa using hl)
  subst hn
  exact ⟨v,w,run_append_nil' w hE ty base hown c,by simpa using hown,⟨rfl,rfl,rfl,Nat.le_refl _,fun _ _ _=>rfl⟩,.inl rfl⟩
 ·have hcells:∀ j u,news[j]? = some u → w.cell? (ad.add j) = some u:=by
   intro j u hu
   obtain ⟨ad',h,hc⟩:=hr (by have:=(List.getElem?_eq_some_iff.1 hu).1; omega)
   injection h with h
   subst h
   exact hc j u hu
  obtain ⟨v',w',hrun,h2,h3,_,h5⟩:=run_append_own_at (P:=P) w base t ty e i z size bytes hE.under hi hz0 hz1 hz2 hE.zsize hE.pos v n xs hown ad m c news hl hcells h1 h63 hbytes hbase
  exact ⟨v',w',hrun,h2,h3,h5⟩
theorem below_own {a w w':World} {v:Value} {B base:Nat} {e:TypeId} {size n:Nat} {xs:List Value} (h:Below B a w) (hown:w.ownsRow base e size v n xs) (hg:w.grownBy w' v.ownBlock) (hB:B ≤ base) (hs:B ≤ w.heap.size):Below B a w' :=
 h.grown hg hs fun k hk=>Nat.le_trans hB (hown.lt k hk).1
theorem wp_app (w:World) {o:Oper} {a:Act} {K:Act → World → Prop} {Q:Exit → Act → World → Prop} (hE:ElemT P t e z size bytes) (s x:Operand)
  (ho:o.op = .call { callee:=.builtin .append,args:=#[s,x],argTypes:=#[t,t] }) (base:Nat) {v:Value} {n:Nat} {xs:List Value} (hs:a.eval s = v) (hown:w.ownsRow base e size v n xs)
  {A:Option Addr} {m c:Nat} {news:List Value} (hx:a.eval x = .slice A m c) (hl:news.length = m * size) (hr:Rd w A news) (h1:∀ u ∈ news,u.oneCell' = true)
  (h63:n + m ≤ maxLen) (hbytes:(n + m) * bytes ≤ 140737488355328) (hbase:base ≤ w.heap.size) (N:Nat) (L:List Value) (hN:n + m = N) (hL:xs ++ news = L)
  (h:∀ v' w',w'.ownsRow base e size v' N L → Below base w w' → K (a.put o.dst v') w'):o.wp P a w K Q:=by
 subst hN hL
 obtain ⟨v',w',hrun,h2,h3,h4⟩:=run_app (P:=P) w hE o.type base hown (c:=c) hl hr h1 h63 hbytes hbase
 unfold Oper.wp execOp
 simp only [ho,resolve,invoke,builtin,Sem.run_bind,Sem.run_pure,Result.andThen_ok,List.map_toArray,List.map_cons,List.map_nil,hs,hx,hrun]
 exact h v' w' h2 (below_own (Below.refl _ _) hown h3 (Nat.le_refl _) hbase)
theorem wp_appG (w:World) {o:Oper} {a:Act} {K:Act → World → Prop} {Q:Exit → Act → World → Prop} (hE:ElemT P t e z size bytes) (s x:Operand)
  (ho:o.op = .call { callee:=.builtin .append,args:=#[s,x],argTypes:=#[t,t] }) (base:Nat) {v:Value} {n:Nat} {xs:List Value} (hs:a.eval s = v) (hown:w.ownsRow base e size v n xs)
  {A:Option Addr} {m c:Nat} {news:List Value} (hx:a.eval x = .slice A m c) (hl:news.length = m * size) (hr:Rd w A news) (h1:∀ u ∈ news,u.oneCell' = true)
  (h63:n + m ≤ maxLen) (hbytes:(n + m) * bytes ≤ 140737488355328) (hbase:base ≤ w.heap.size) (N:Nat) (L:List Value) (hN:n + m = N) (hL:xs ++ news = L)
  (h:∀ v' w',w'.ownsRow base e size v' N L → Below base w w' → w.grownBy w' v.ownBlock → K (a.put o.dst v') w'):o.wp P a w K Q:=by
 subst hN hL
 obtain ⟨v',w',hrun,h2,h3,h4⟩:=run_app (P:=P) w hE o.type base hown (c:=c) hl hr h1 h63 hbytes hbase
 unfold Oper.wp execOp
 simp only [ho,resolve,invoke,builtin,Sem.run_bind,Sem.run_pure,Result.andThen_ok,List.map_toArray,List.map_cons,List.map_nil,hs,hx,hrun]
 exact h v' w' h2 (below_own (Below.refl _ _) hown h3 (Nat.le_refl _) hbase) h3
theorem wpList_appG {w:World} {ops:Array Oper} {rest:List Oper} {o:Oper} {a:Act} {Q:Exit → Act → World → Prop} (hw:Region.wanted o (yielded ops a.tmps) = true) (hE:ElemT P t e z size bytes) (s x:Operand)
  (ho:o.op = .call { callee:=.builtin .append,args:=#[s,x],argTypes:=#[t,t] }) (base:Nat) {v:Value} {n:Nat} {xs:List Value} (hs:a.eval s = v) (hown:w.ownsRow base e size v n xs)
  {A:Option Addr} {m c:Nat} {news:List Value} (hx:a.eval x = .slice A m c) (hl:news.length = m * size) (hr:Rd w A news) (h1:∀ u ∈ news,u.oneCell' = true)
  (h63:n + m ≤ maxLen) (hbytes:(n + m) * bytes ≤ 140737488355328) (hbase:base ≤ w.heap.size) (N:Nat) (L:List Value) (hN:n + m = N) (hL:xs ++ news = L)
  (h:∀ v' w',w'.ownsRow base e size v' N L → Below base w w' → w.grownBy w' v.ownBlock → wpList P ops Q rest (a.put o.dst v') w') :
  wpList P ops Q (o :: rest) a w :=
 wpList_step fun _ hK=>by rw [if_pos hw]; exact wp_appG w hE s x ho base hs hown hx hl hr h1 h63 hbytes hbase N L hN hL fun v' w' h2 h3 h4=>hK _ _ (h v' w' h2 h3 h4)
theorem wpList_appB {w:World} {ops:Array Oper} {rest:List Oper} {o:Oper} {a:Act} {Q:Exit → Act → World → Prop} (hw:Region.wanted o (yielded ops a.tmps) = true) (hE:ElemT P t e z size bytes) (s x:Operand)
  (ho:o.op = .call { callee:=.builtin .append,args:=#[s,x],argTypes:=#[t,t] }) (base:Nat) {v:Value} {n:Nat} {xs:List Value} (hs:a.eval s = v) (hown:w.ownsRow base e size v n xs)
  {A:Option Addr} {m c:Nat} {news:List Value} (hx:a.eval x = .slice A m c) (hl:news.length = m * size) (hr:Rd w A news) (h1:∀ u ∈ news,u.oneCell' = true)
  (h63:n + m ≤ maxLen) (hbytes:(n + m) * bytes ≤ 140737488355328) (hbase:base ≤ w.heap.size) (N:Nat) (L:List Value) (hN:n + m = N) (hL:xs ++ news = L)
  (h:∀ v' w',w'.ownsRow base e size v' N L → Below base w w' → w.grownBy w' v.ownBlock → (v'.ownBlock = v.ownBlock ∨ v'.ownBlock = some w.heap.size) → wpList P ops Q rest (a.put o.dst v') w') :
  wpList P ops Q (o :: rest) a w:=by
 refine wpList_step fun _ hK=>?_
 rw [if_pos hw]
 subst hN hL
 obtain ⟨v',w',hrun,h2,h3,h4⟩:=run_app (P:=P) w hE o.type base hown (c:=c) hl hr h1 h63 hbytes hbase
 unfold Oper.wp execOp
 simp only [ho,resolve,invoke,builtin,Sem.run_bind,Sem.run_pure,Result.andThen_ok,List.map_toArray,List.map_cons,List.map_nil,hs,hx,hrun]
 exact hK _ _ (h v' w' h2 (below_own (Below.refl _ _) hown h3 (Nat.le_refl _) hbase) h3 h4)
theorem Box.kept {w w':World} {g:Nat} {cs:List Value} {row:Option Nat} (h:Box w g cs) (hg:w.grownBy w' row) (hne:some g ≠ row) (hp:0 < cs.length):Box w' g cs:=by
 have hb:=hg.block g (h.lt hp) hne
 intro i u hu
 have:=h i u hu
 exact ⟨(World.cell?_of_block (a:=⟨g,i,none⟩) hb).trans this.1,(World.frozen?_of_block (a:=⟨g,i,none⟩) hb).trans this.2⟩
theorem grownBy_set (w:World) (g j:Nat) (u:Value):w.grownBy (w.setCell ⟨g,j,none⟩ u) (some g) :=
 ⟨rfl,rfl,rfl,by simp,fun k _ hk=>heap_setCell_other w ⟨g,j,none⟩ k u (fun e=>hk (by simp [e]))⟩
theorem wpList_app {w:World} {ops:Array Oper} {rest:List Oper} {o:Oper} {a:Act} {Q:Exit → Act → World → Prop} (hw:Region.wanted o (yielded ops a.tmps) = true) (hE:ElemT P t e z size bytes) (s x:Operand)
  (ho:o.op = .call { callee:=.builtin .append,args:=#[s,x],argTypes:=#[t,t] }) (base:Nat) {v:Value} {n:Nat} {xs:List Value} (hs:a.eval s = v) (hown:w.ownsRow base e size v n xs)
  {A:Option Addr} {m c:Nat} {news:List Value} (hx:a.eval x = .slice A m c) (hl:news.length = m * size) (hr:Rd w A news) (h1:∀ u ∈ news,u.oneCell' = true)
  (h63:n + m ≤ maxLen) (hbytes:(n + m) * bytes ≤ 140737488355328) (hbase:base ≤ w.heap.size) (N:Nat) (L:List Value) (hN:n + m = N) (hL:xs ++ news = L)
  (h:∀ v' w',w'.ownsRow base e size v' N L → Below base w w' → wpList P ops Q rest (a.put o.dst v') w') :
  wpList P ops Q (o :: rest) a w :=
 wpList_step fun _ hK=>by rw [if_pos hw]; exact wp_app w hE s x ho base hs hown hx hl hr h1 h63 hbytes hbase N L hN hL fun v' w' h2 h3=>hK _ _ (h v' w' h2 h3)
theorem step_appG {w:World} {ops:Array Oper} {o:Oper} {a:Act} {K:Act → World → Prop} {Q:Exit → Act → World → Prop} {F:Prop} (hgd:o.guard = none) (hE:ElemT P t e z size bytes) (s x:Operand)
  (ho:o.op = .call { callee:=.builtin .append,args:=#[s,x],argTypes:=#[t,t] }) (base:Nat) {v:Value} {n:Nat} {xs:List Value} (hs:a.eval s = v) (hown:w.ownsRow base e size v n xs)
  {A:Option Addr} {m c:Nat} {news:List Value} (hx:a.eval x = .slice A m c) (hl:news.length = m * size) (hr:Rd w A news) (h1:∀ u ∈ news,u.oneCell' = true)
  (h63:n + m ≤ maxLen) (hbytes:(n + m) * bytes ≤ 140737488355328) (hbase:base ≤ w.heap.size) (N:Nat) (L:List Value) (hN:n + m = N) (hL:xs ++ news = L)
  (h:∀ v' w',w'.ownsRow base e size v' N L → Below base w w' → w.grownBy w' v.ownBlock → K (a.put o.dst v') w') :
  if Region.wanted o (yielded ops a.tmps) = true then Oper.wp P o a w K Q else F:=by
 have hw:Region.wanted o (yielded ops a.tmps) = true:=by simp [Region.wanted,hgd]
 rw [if_pos hw]
 exact wp_appG w hE s x ho base hs hown hx hl hr h1 h63 hbytes hbase N L hN hL h
end
theorem own_empty (w:World) (e:TypeId) (size:Nat):(w.alloc (.cells #[] e)).ownsRow w.heap.size e size (.slice (some ⟨w.heap.size,0,none⟩) 0 0) 0 []:=World.ownsRow_made w #[] 0 (Nat.le_refl _) (by simp) (by simp)
theorem below_new (w:World) (o:Obj):Below w.heap.size w (w.alloc o):=(Below.refl _ _).alloc (Nat.le_refl _) o
def zeroRow (z:Value) (n:Nat):Array Value:=(List.replicate n z).toArray
theorem zeroRow_made (z:Value) (n:Nat):madeCells #[z] n = zeroRow z n:=by
 apply Array.toList_inj.1
 rw [toList_madeCells_one]; simp [zeroRow]
theorem run_make1 {P:Program} {t e:TypeId} {z:Value} {bytes:Nat} (hE:ElemT P t e z 1 bytes) (hz:z.cells = #[z]) (kl kc:IntKind) (n c:Nat) (hnc:n ≤ c) (hb:bytes * c ≤ 281474976710656) (hc:c ≤ 9223372036854775807) (w:World) :
  (Instr.makeSlice t (.int kl (n:Int)) (.int kc (c:Int))).run P w = .ok (.slice (some ⟨w.heap.size,0,none⟩) n c) (w.alloc (.cells (zeroRow z c) e)):=by
 obtain ⟨i,hi,hz0,hz1,hz2⟩:=info_parts hE.info
 have h:(i.bytes:Int) * (c:Int) ≤ 281474976710656:=by
  have h:((bytes * c:Nat):Int) ≤ 281474976710656:=by omega
  rw [hz2]; rwa [Int.natCast_mul] at h
 have:=run_make (P:=P) w t e i z hE.under hi hz0 kl kc n c (by omega) (by omega) h (by omega)
 rw [hz,hz1,Nat.mul_one,Int.toNat_natCast,Int.toNat_natCast,zeroRow_made] at this
 exact this
theorem own_get {w:World} {base g n c:Nat} {e:TypeId} {xs:List Value} (h:w.ownsRow base e 1 (.slice (some ⟨g,0,none⟩) n c) n xs) {k:Nat} (hk:k < xs.length):w.cell? ⟨g,k,none⟩ = some xs[k]:=by
 have hl:=h.1
 rw [h.cellAt k (by omega)]; simp
theorem own_u8 {w:World} {base g n c:Nat} {e:TypeId} {bs:List UInt8} (h:w.ownsRow base e 1 (.slice (some ⟨g,0,none⟩) n c) n (bs.map u8v)) {k:Nat} (hk:k < bs.length) :
  w.cell? ⟨g,k,none⟩ = some (.int .u8 (bs[k].toNat:Int)):=by
 rw [own_get h (by simpa using hk)]; simp [u8v]
theorem u8_ofInt {x:Int} (h0:0 ≤ x) (h1:x < 256):u8v (UInt8.ofNat x.toNat) = .int .u8 x:=by
 have h:x.toNat < 256:=by omega
 simp only [u8v,UInt8.toNat_ofNat']
 rw [show x.toNat % 2 ^ 8 = x.toNat from Nat.mod_eq_of_lt (by omega),Int.toNat_of_nonneg h0]
theorem Rd.lit (w:World) (cs:Array Value) (t:TypeId):Rd (w.alloc (.cells cs t)) (some ⟨w.heap.size,0,none⟩) cs.toList:=by
 intro _
 refine ⟨_,rfl,fun j u hu=>?_⟩
 have hadd:(⟨w.heap.size,0,none⟩:Addr).add j = ⟨w.heap.size,j,none⟩:=by unfold Addr.add; split <;> simp_all
 rw [hadd,cell_of_row _ _ _ _ _ _ (heap_alloc_new w _)]
 simpa using hu
theorem conv_bytes {P:Program} (w:World) {src dst e:TypeId} (hs:P.underlying src = some (.slice e)) (he:P.underlying e = some (.int .u8)) (hd:P.underlying dst = some .string)
  {A:Option Addr} {n cap:Nat} {bs:List UInt8} (hb:Bs w A bs) (hn:bs.length = n):(convert src dst (.slice A n cap)).run P w = .ok (.string ⟨bs.toArray⟩) w:=by
 subst hn
 rcases bs with _ | ⟨b,r⟩
 ·rw [run_convert_bytes_string w src dst e _ _ cap hs he hd]
  cases A <;> simp [Conv.bytesToString,loadCells]
  all_goals rfl
 ·obtain ⟨ad,rfl,_⟩:=hb.get (k:=0) (by simp)
  refine run_convert_bytes_back w src dst e ad cap (b :: r) hs he hd fun j hj=>?_
  obtain ⟨ad',h',hc⟩:=Bs.get hb hj
  injection h' with h'
  subst h'
  exact hc
theorem u8v_one (bs:List UInt8):∀ u ∈ bs.map u8v,u.oneCell' = true:=by
 intro u hu
 obtain ⟨b,_,rfl⟩:=List.mem_map.1 hu
 rfl
structure St (W w:World) (bs:List (Nat × List Value)) (rs:List (Option Addr × List Value)):Prop where
 b:Below W.heap.size W w
 bx:∀ (i:Nat) (x:Nat × List Value),bs[i]? = some x → Box w x.1 x.2
 rd:∀ (i:Nat) (x:Option Addr × List Value),rs[i]? = some x → Rd W x.1 x.2
section
variable {W w w':World} {bs:List (Nat × List Value)} {rs:List (Option Addr × List Value)}
theorem St.start (W:World):St W W [] []:=⟨Below.refl _ _,by simp,by simp⟩
theorem St.box (S:St W w bs rs) (i:Nat) {g:Nat} {cs:List Value} (hi:bs[i]? = some (g,cs)):Box w g cs:=S.bx i _ hi
theorem St.r (S:St W w bs rs) (i:Nat) {A:Option Addr} {xs:List Value} (hi:rs[i]? = some (A,xs)):Rd w A xs:=(S.rd i _ hi).below S.b
theorem St.c (S:St W w bs rs) (i j:Nat) {g:Nat} {cs:List Value} {u:Value} (hi:bs[i]? = some (g,cs)) (hj:cs[j]? = some u):w.cell? ⟨g,j,none⟩ = some u:=(S.box i hi).c j hj
theorem St.f (S:St W w bs rs) (i j:Nat) {g:Nat} {cs:List Value} {u:Value} (hi:bs[i]? = some (g,cs)) (hj:cs[j]? = some u):w.frozen? ⟨g,j,none⟩ = false:=(S.box i hi).f j hj
theorem St.call (S:St W w bs rs) (hb:Below w.heap.size w w'):St W w' bs rs :=
 ⟨S.b.trans (hb.mono S.b.size),fun i x hx=>(S.bx i x hx).later hb,S.rd⟩
theorem St.alloc (S:St W w bs rs) (o:Obj):St W (w.alloc o) bs rs:=S.call (below_new' w o)
theorem St.new (S:St W w bs rs) (cs:Array Value) (t:TypeId):St W (w.alloc (.cells cs t)) ((w.heap.size,cs.toList) :: bs) rs:=by
 have S1:=S.alloc (.cells cs t)
 refine ⟨S1.b,fun i x hx=>?_,S1.rd⟩
 cases i with
 | zero=>simp at hx; subst hx; exact Box.new w cs t
 | succ i=>exact S1.bx i x (by simpa using hx)
theorem St.new' (S:St W w bs rs) (cs:Array Value) (t:TypeId) (g:Nat) (l:List Value) (hg:w.heap.size = g) (hl:cs.toList = l):St W (w.alloc (.cells cs t)) ((g,l) :: bs) rs:=by
 subst hg hl; exact S.new cs t
theorem St.set (S:St W w bs rs) (i j:Nat) (u:Value) {g:Nat} {cs:List Value} (hi:bs[i]? = some (g,cs)) (hj:j < cs.length) (hg:W.heap.size ≤ g)
  (hd:∀ x ∈ bs.eraseIdx i,x.1 ≠ g) (bs':List (Nat × List Value)) (hbs:bs.set i (g,cs.set j u) = bs'):St W (w.setCell ⟨g,j,none⟩ u) bs' rs:=by
 subst hbs
 refine ⟨S.b.setCell (p:=⟨g,j,none⟩) hg u,fun k x hx=>?_,S.rd⟩
 by_cases hk:i = k
 ·subst hk
  rw [List.getElem?_set_self (by have:=(List.getElem?_eq_some_iff.1 hi).1; exact this)] at hx
  injection hx with hx
  subst hx
  exact (S.bx i _ hi).set j u hj
 ·rw [List.getElem?_set_ne hk] at hx
  exact (S.bx k x hx).far u (fun e=>hd x (List.mem_eraseIdx_iff_getElem?.2 ⟨k,fun e'=>hk e'.symm,hx⟩) e.symm)
theorem St.set2 (S:St W w bs rs) (i:Nat) (a b:Value) {g:Nat} {a0 b0:Value} (hi:bs[i]? = some (g,[a0,b0])) (hg:W.heap.size ≤ g)
  (hd:∀ x ∈ bs.eraseIdx i,x.1 ≠ g) (bs':List (Nat × List Value)) (hbs:bs.set i (g,[a,b]) = bs'):St W ((w.setCell ⟨g,0,none⟩ a).setCell ⟨g,1,none⟩ b) bs' rs:=by
 have hl:i < bs.length:=(List.getElem?_eq_some_iff.1 hi).1
 refine (S.set i 0 a hi (by simp) hg hd _ rfl).set i 1 b (g:=g) (cs:=[a,b0]) (by rw [List.getElem?_set_self hl]; rfl) (by simp) hg ?_ bs' (by rw [← hbs,List.set_set]; rfl)
 rwa [List.eraseIdx_set_eq]
theorem Rd.at {w:World} {g:Nat} {xs:List Value} (h:Rd w (some ⟨g,0,none⟩) xs) (j:Nat) {u:Value} (hj:xs[j]? = some u):w.cell? ⟨g,j,none⟩ = some u:=by
 obtain ⟨ad,e,hc⟩:=h (by have:=(List.getElem?_eq_some_iff.1 hj).1; omega)
 injection e with e
 subst e
 have hadd:(⟨g,0,none⟩:Addr).add j = ⟨g,j,none⟩:=by unfold Addr.add; split <;> simp_all
 have:=hc j u hj
 rwa [hadd] at this
theorem St.rc (S:St W w bs rs) (i j:Nat) {g:Nat} {xs:List Value} {u:Value} (hi:rs[i]? = some (some ⟨g,0,none⟩,xs)) (hj:xs[j]? = some u):w.cell? ⟨g,j,none⟩ = some u:=(S.r i hi).at j hj
theorem St.drew (S:St W w bs rs):St W w.drew bs rs:=⟨S.b.drew,S.bx,S.rd⟩
theorem St.drewN (S:St W w bs rs) (n:Nat):St W (w.drewN n) bs rs:=⟨below_drewN S.b n,S.bx,S.rd⟩
theorem St.read (S:St W w bs rs) {A:Option Addr} {xs:List Value} (h:Rd W A xs):St W w bs ((A,xs) :: rs) :=
 ⟨S.b,S.bx,fun i x hx=>by
  cases i with
  | zero=>simp at hx; subst hx; exact h
  | succ i=>exact S.rd i x (by simpa using hx)⟩
theorem St.keepBoxes (S:St W w bs rs) (bs':List (Nat × List Value)) (h:∀ x ∈ bs',x ∈ bs):St W w bs' rs :=
 ⟨S.b,fun i x hx=>by
  obtain ⟨j,hj,hj'⟩:=List.getElem_of_mem (h x (List.mem_of_getElem? hx))
  exact S.bx j x (by rw [List.getElem?_eq_getElem hj,hj']),S.rd⟩
theorem St.keepReads (S:St W w bs rs) (rs':List (Option Addr × List Value)) (h:∀ x ∈ rs',x ∈ rs):St W w bs rs' :=
 ⟨S.b,S.bx,fun i x hx=>by
  obtain ⟨j,hj,hj'⟩:=List.getElem_of_mem (h x (List.mem_of_getElem? hx))
  exact S.rd j x (by rw [List.getElem?_eq_getElem hj,hj'])⟩
end
end Go.Proofs.YtehimhbgakpenaaGreat

namespace Go.Proofs.YtehimhbgakpenaaGreat
set_option linter.unusedVariables false
open Go.RowKit Go.ChangeShapes Go.WideShapes Go.ChangeAt
def Rep {α:Type} (R:α → List Value → Prop) (s:Nat):List α → List Value → Prop
 | [],vs=>vs = []
 | x :: xs,vs=>∃ c r,vs = c ++ r ∧ R x c ∧ c.length = s ∧ Rep R s xs r
section
variable {α:Type} {R:α → List Value → Prop} {s:Nat}
theorem Rep.length {xs:List α}:∀ {vs:List Value},Rep R s xs vs → vs.length = xs.length * s:=by
 induction xs with
 | nil=>intro vs h; simp [Rep] at h; simp [h]
 | cons x xs ih =>
   rintro vs ⟨c,r,rfl,_,hc,hr⟩
   rw [List.length_append,hc,ih hr,List.length_cons,Nat.add_mul]; omega
theorem Rep.append {xs ys:List α}:∀ {vs us:List Value},Rep R s xs vs → Rep R s ys us → Rep R s (xs ++ ys) (vs ++ us):=by
 induction xs with
 | nil=>intro vs us h h2; simp [Rep] at h; subst h; simpa using h2
 | cons x xs ih =>
   rintro vs us ⟨c,r,rfl,h1,hc,hr⟩ h2
   exact ⟨c,r ++ us,by simp,h1,hc,ih hr h2⟩
theorem Rep.one {x:α} {c:List Value} (h:R x c) (hc:c.length = s):Rep R s [x] c:=⟨c,[],by simp,h,hc,rfl⟩
theorem Rep.drop {xs:List α}:∀ {vs:List Value},Rep R s xs vs → ∀ k,Rep R s (xs.drop k) (vs.drop (k * s)):=by
 induction xs with
 | nil=>intro vs h k; simp [Rep] at h; simp [h,Rep]
 | cons x xs ih =>
   intro vs h k
   cases k with
   | zero=>simpa using h
   | succ k =>
     obtain ⟨c,r,rfl,h1,hc,hr⟩:=h
     have:=ih hr k
     rw [Nat.add_mul,Nat.one_mul,Nat.add_comm (k * s) s,List.drop_succ_cons,← List.drop_drop (l:=c ++ r)]
     rw [show (c ++ r).drop s = r from by rw [← hc,List.drop_left]]
     exact this
theorem Rep.take {xs:List α}:∀ {vs:List Value},Rep R s xs vs → ∀ k,Rep R s (xs.take k) (vs.take (k * s)):=by
 induction xs with
 | nil=>intro vs h k; simp [Rep] at h; simp [h,Rep]
 | cons x xs ih =>
   intro vs h k
   cases k with
   | zero=>simp [Rep]
   | succ k =>
     obtain ⟨c,r,rfl,h1,hc,hr⟩:=h
     have:=ih hr k
     refine ⟨c,r.take (k * s),?_,h1,hc,this⟩
     rw [Nat.add_mul,Nat.one_mul,Nat.add_comm (k * s) s,← hc,List.take_length_add_append]
theorem Rep.mono {R':α → List Value → Prop} (hR:∀ x c,R x c → R' x c) {xs:List α}:∀ {vs:List Value},Rep R s xs vs → Rep R' s xs vs:=by
 induction xs with
 | nil=>intro vs h; exact h
 | cons x xs ih =>
   rintro vs ⟨c,r,e,h1,hc,hr⟩
   exact ⟨c,r,e,hR _ _ h1,hc,ih hr⟩
end
def IsInt (k:IntKind) (n:Int) (cs:List Value):Prop:=cs = [.int k n] ∧ (Lit.int k n).wf = true
def IsBool (b:Bool) (cs:List Value):Prop:=cs = [.bool b]
def IsSlice {α:Type} (w:World) (R:α → List Value → Prop) (s:Nat) (xs:List α) (cs:List Value):Prop :=
 ∃ A c vs,cs = [.slice A xs.length c] ∧ xs.length ≤ c ∧ c ≤ maxLen ∧ Rep R s xs vs ∧ Rd w A vs
def IsTwo {α β:Type} (R:α → List Value → Prop) (S:β → List Value → Prop) (x:α × β) (cs:List Value):Prop:=∃ c d,cs = c ++ d ∧ R x.1 c ∧ S x.2 d
def Opens (P:Program) (w:World) (t:TypeId) {α:Type} (R:α → List Value → Prop):Prop :=
 ∀ {H:Type} {enc:TypeId × Value → H} {base:Nat} {spare:Nat → Bool} {held:Bool} {fuel:Nat} {cs:List Value} {x:DataW H × List MemPlace},
   DataW.trod enc P w base spare held fuel t cs = some x → ∃ a,R a cs ∧ cs.length = P.cellsOf t
section
variable {P:Program} {w:World} {t:TypeId}
theorem opens_int {k:IntKind} (ht:P.underlying t = some (.int k)) (hc:P.cellsOf t = 1):Opens P w t (IsInt k):=by
 intro H enc base spare held fuel cs x h
 obtain ⟨n,rfl,_,hw⟩:=DataW.trod_int ht h
 exact ⟨n,⟨rfl,hw⟩,by simp [hc]⟩
theorem opens_bool (ht:P.underlying t = some .bool) (hc:P.cellsOf t = 1):Opens P w t IsBool:=by
 intro H enc base spare held fuel cs x h
 obtain ⟨n,rfl,_⟩:=DataW.trod_bool ht h
 exact ⟨n,rfl,by simp [hc]⟩
theorem opens_slice {α:Type} {R:α → List Value → Prop} {e:TypeId} (ht:P.underlying t = some (.slice e)) (hc:P.cellsOf t = 1) (hR:Opens P w e R):Opens P w t (IsSlice w R (P.cellsOf e)):=by
 intro H enc base spare held fuel cs x h
 rcases DataW.trod_slice ht h with ⟨rfl,_⟩ | ⟨a,len,cap,elems,rest,n,_,rfl,_,_,hlc,hcm,hel,hat,_,_⟩
 ·exact ⟨[],⟨none,0,[],rfl,Nat.le_refl _,Nat.zero_le _,rfl,Rd.nil _ _⟩,by simp [hc]⟩
 ·-- each element
  have hone:∀ i,i < len → ∃ (b:α) (c:List Value),R b c ∧ c.length = P.cellsOf e ∧ ∀ j u,c[j]? = some u → w.cell? (a.add (i * P.cellsOf e + j)) = some u:=by
   intro i hi
   have h1:=hat i hi
   rw [List.getElem?_eq_getElem (by omega)] at h1
   obtain ⟨c,hcc,htr⟩:=Option.bind_eq_some_iff.1 h1
   obtain ⟨_,hl,hcell⟩:=World.cells?_some hcc
   obtain ⟨b,hb,_⟩:=hR htr
   refine ⟨b,c,hb,hl,fun j u hu=>?_⟩
   have hj:j < P.cellsOf e:=by have:=(List.getElem?_eq_some_iff.1 hu).1; omega
   rw [← addr_add_add,hcell j hj,hu]
  have hall:∀ m,m ≤ len → ∃ (xs:List α) (vs:List Value),xs.length = m ∧ Rep R (P.cellsOf e) xs vs ∧ ∀ j u,vs[j]? = some u → w.cell? (a.add j) = some u:=by
   intro m
   induction m with
   | zero=>intro _; exact ⟨[],[],rfl,rfl,by simp⟩
   | succ m ih =>
     intro hm
     obtain ⟨xs,vs,hl,hrep,hcl⟩:=ih (by omega)
     obtain ⟨b,c,hb,hl2,hc2⟩:=hone m (by omega)
     refine ⟨xs ++ [b],vs ++ c,by simp [hl],hrep.append (Rep.one hb hl2),fun j u hu=>?_⟩
     have hlv:=hrep.length
     rw [hl] at hlv
     rw [List.getElem?_append] at hu
     split at hu
     ·exact hcl j u hu
     ·have:=hc2 _ u hu
      rw [show m * P.cellsOf e + (j - vs.length) = j from by omega] at this
      exact this
  obtain ⟨xs,vs,hl,hrep,hcl⟩:=hall len (Nat.le_refl _)
  exact ⟨xs,⟨some a,cap,vs,by rw [hl],by omega,hcm,hrep,fun _=>⟨a,rfl,hcl⟩⟩,by simp [hc]⟩
theorem opens_arr2 {α:Type} {R:α → List Value → Prop} {e:TypeId} (ht:P.underlying t = some (.array 2 e)) (hC:P.cellsOf t = 2 * P.cellsOf e) (hR:Opens P w e R):Opens P w t (IsTwo R R):=by
 intro H enc base spare held fuel cs x h
 obtain ⟨xs,m,_,_,hcl,hl,hi⟩:=DataW.trod_array ht h
 have h0:=hi 0 (by omega)
 have h1:=hi 1 (by omega)
 rw [List.getElem?_eq_getElem (by omega)] at h0 h1
 obtain ⟨a,ra,_⟩:=hR h0
 obtain ⟨b,rb,_⟩:=hR h1
 refine ⟨(a,b),⟨_,_,?_,ra,rb⟩,hcl⟩
 simp only [Nat.zero_mul,List.drop_zero,Nat.one_mul]
 rw [List.take_of_length_le (l:=cs.drop _) (by rw [List.length_drop]; omega),List.take_append_drop]
end
end Go.Proofs.YtehimhbgakpenaaGreat

namespace Go.Proofs.YtehimhbgakpenaaGreat
open Go.RowKit Go.ChangeShapes Go.WideShapes Go.ChangeAt
theorem frame_own:ownKnob Tryz.prog.godebug = none:=by kernel_rfl
theorem frame_laidOut:laidOutB Tryz.prog = true:=by kernel_rfl
section
variable {H:Type} {enc:TypeId × Value → H} {P:Program} {w:World} {base:Nat} {spare:Nat → Bool} {held:Bool} {r:Reach} {b0:Nat} {t:TypeId} {v:Value} {d:DataW H} {ps:List MemPlace}
theorem arg_struct {α:Type} {R:α → List Value → Prop} {fs:Array Field} (ht:P.underlying t = some (.struct fs)) (hO:Opens P w t R) (hv:Value.okWide P w r b0 t v) (h:DataW.Trod enc P w base spare held t v d ps) :
  ∃ (cs:List Value) (x:α),v = .agg cs.toArray ∧ R x cs:=by
 obtain ⟨cs,rfl,_⟩:=okWide_struct ht hv
 obtain ⟨fuel,hf⟩:=h
 obtain ⟨x,hx,_⟩:=hO hf
 exact ⟨cs.toList,x,by simp,hx⟩
end
end Go.Proofs.YtehimhbgakpenaaGreat
