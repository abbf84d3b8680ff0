/-
  The texts Win, Nw1, Nw2, Win0, Nw3, Nw4, Nw5, one after the other.
-/
import Derived.Test.YtehimhbgakpenaaGreatQPWith0
import Derived.Test.YtehimhbgakpenaaGreatQPWith45
import Derived.Test.YtehimhbgakpenaaGreatQPWith46
import Derived.Test.YtehimhbgakpenaaGreatQPWith4
namespace Go.Proofs.YtehimhbgakpenaaGreat
set_option linter.unusedVariables false
set_option linter.unusedSimpArgs false
open Go.RowKit
def Win (w:World) (base:Nat) (e:TypeId) (size:Nat) (v:Value) (n:Nat) (xs:List Value):Prop :=
 xs.length = n * size ∧
 ((v = .slice none 0 0 ∧ n = 0) ∨
  ∃ g off cap cur,v = .slice (some ⟨g,off,none⟩) n cap ∧ base ≤ g ∧ w.heap[g]? = some (.cells cur e (0,0)) ∧ n ≤ cap ∧ cap ≤ maxLen ∧ off + cap * size ≤ cur.size ∧ (cur.toList.drop off).take (n * size) = xs)
section
variable {w w':World} {base:Nat} {e:TypeId} {size:Nat} {v:Value} {n:Nat} {xs:List Value}
theorem win_own (h:w.ownsRow base e size v n xs):Win w base e size v n xs:=by
 refine ⟨h.1,?_⟩
 rcases h.2 with h2 | ⟨g,cap,cur,rfl,hb,hg,h1,h2,h3,h4⟩
 ·exact .inl h2
 ·exact .inr ⟨g,0,cap,cur,rfl,hb,hg,h1,h2,by omega,by simpa using h4⟩
theorem Win.lt (h:Win w base e size v n xs):∀ k,v.ownBlock = some k → base ≤ k ∧ k < w.heap.size:=by
 intro k hk
 rcases h.2 with ⟨rfl,_⟩ | ⟨g,off,cap,cur,rfl,hb,hg,_⟩
 ·simp [Value.ownBlock] at hk
 ·simp [Value.ownBlock] at hk
  subst hk
  exact ⟨hb,(Array.getElem?_eq_some_iff.1 hg).1⟩
theorem Win.ty (h:Win w base e size v n xs):∀ k,v.ownBlock = some k → ∃ cur,w.heap[k]? = some (.cells cur e (0,0)):=by
 intro k hk
 rcases h.2 with ⟨rfl,_⟩ | ⟨g,off,cap,cur,rfl,hb,hg,_⟩
 ·simp [Value.ownBlock] at hk
 ·simp [Value.ownBlock] at hk
  subst hk
  exact ⟨cur,hg⟩
theorem Win.kept (h:Win w base e size v n xs) (hk:∀ k,v.ownBlock = some k → w'.heap[k]? = w.heap[k]?):Win w' base e size v n xs:=by
 refine ⟨h.1,?_⟩
 rcases h.2 with h2 | ⟨g,off,cap,cur,rfl,hb,hg,r⟩
 ·exact .inl h2
 ·exact .inr ⟨g,off,cap,cur,rfl,hb,(hk g rfl).trans hg,r⟩
theorem Win.below (h:Win w base e size v n xs) (hb:Below w.heap.size w w'):Win w' base e size v n xs:=h.kept fun k hk=>hb.block k (h.lt k hk).2
theorem Win.form (h:Win w base e size v n xs):∃ A c,v = .slice A n c ∧ n ≤ c ∧ c ≤ maxLen:=by
 rcases h.2 with ⟨rfl,rfl⟩ | ⟨g,off,cap,cur,rfl,hb,hg,h1,h2,_⟩
 ·exact ⟨none,0,rfl,Nat.le_refl _,Nat.zero_le _⟩
 ·exact ⟨_,cap,rfl,h1,h2⟩
theorem Win.cells {g off cap:Nat} (h:Win w base e size (.slice (some ⟨g,off,none⟩) n cap) n xs):∀ j u,xs[j]? = some u → w.cell? ((⟨g,off,none⟩:Addr).add j) = some u:=by
 intro j u hu
 rcases h.2 with ⟨h2,_⟩ | ⟨g',off',cap',cur,h2,hb,hg,h3,h4,h5,h6⟩
 ·cases h2
 ·injection h2 with h2 _ _
  injection h2 with h2
  injection h2 with h7 h8 _
  subst h7 h8
  have hadd:(⟨g,off,none⟩:Addr).add j = ⟨g,off + j,none⟩:=by unfold Addr.add; split <;> simp_all
  rw [hadd,cell_of_row w g (off + j) cur e (0,0) hg]
  rw [← h6,List.getElem?_take] at hu
  split at hu
  ·rw [List.getElem?_drop] at hu
   simpa using hu
  ·cases hu
theorem Win.rd {A:Option Addr} {c:Nat} (h:Win w base e size (.slice A n c) n xs):Rd w A xs:=by
 intro hn
 rcases h.2 with ⟨h2,h3⟩ | ⟨g,off,cap,cur,h2,_⟩
 ·have:=h.1
  rw [h3,Nat.zero_mul] at this
  omega
 ·injection h2 with h2 h3 h4
  subst h2 h4
  exact ⟨_,rfl,fun j u hu=>h.cells j u hu⟩
end
def subS (size:Nat) (A:Option Addr) (lo c:Nat):Option Addr:=if c = lo then A else A.map (·.add (lo * size))
section
variable {P:Program} {t e:TypeId} {z:Value} {size bytes:Nat}
theorem run_fromS (hE:ElemT P t e z size bytes) (A:Option Addr) (n c lo:Nat) (h1:lo ≤ n) (W:World) :
  (Instr.slice t (.slice A n c) (some (.int .i64 (lo:Int))) none none).run P W = .ok (.slice (subS size A lo c) (n - lo) (c - lo)) W:=by
 obtain ⟨i,hi',hz0,hz1,hz2⟩:=info_parts hE.info
 have hel:P.elem t = e:=by simp [Program.elem,hE.under]
 rw [run_slice_l W t A n c (by rw [hel]; exact hE.under) .i64 lo (by omega) (by omega),hel]
 simp [sizeOf,typeInfo,hi',hz1,sliced,subS,Result.andThen]
theorem Win.from {w:World} {base:Nat} {A:Option Addr} {n c:Nat} {xs:List Value} (h:Win w base e size (.slice A n c) n xs) (lo:Nat) (hlo:lo ≤ n) (hs:0 < size):Win w base e size (.slice (subS size A lo c) (n - lo) (c - lo)) (n - lo) (xs.drop (lo * size)):=by
 refine ⟨by rw [List.length_drop,h.1,Nat.sub_mul],?_⟩
 rcases h.2 with ⟨h2,h3⟩ | ⟨g,off,cap,cur,h2,hb,hg,h3,h4,h5,h6⟩
 ·injection h2 with h2 _ h4
  subst h2 h4
  left
  have:lo = 0:=by omega
  subst this
  refine ⟨?_,by omega⟩
  subst h3
  rfl
 ·injection h2 with h2 _ h7
  subst h2 h7
  right
  unfold subS
  by_cases hc:c = lo
  ·have hn:n = lo:=by omega
   subst hc
   subst hn
   rw [if_pos rfl,Nat.sub_self]
   refine ⟨g,off,0,cur,rfl,hb,hg,Nat.le_refl _,Nat.zero_le _,?_,?_⟩
   ·have:0 ≤ n * size:=Nat.zero_le _
    omega
   ·rw [Nat.zero_mul,List.take_zero,List.drop_of_length_le (by rw [h.1]; exact Nat.le_refl _)]
  ·rw [if_neg hc]
   have hadd:(⟨g,off,none⟩:Addr).add (lo * size) = ⟨g,off + lo * size,none⟩:=by unfold Addr.add; split <;> simp_all
   refine ⟨g,off + lo * size,c - lo,cur,by simp only [Option.map_some]; rw [hadd],hb,hg,by omega,by omega,?_,?_⟩
   ·have:lo * size + (c - lo) * size = c * size:=by rw [← Nat.add_mul]; congr 1; omega
    omega
   ·rw [← h6,List.drop_take,List.drop_drop,Nat.sub_mul]
theorem run_append_roomW (w:World) (ty:TypeId) (i:TypeInfo) (ht:P.underlying t = some (.slice e)) (hi:P.info? e = some i)
  (g off sLen sCap:Nat) (cur:Array Value) (hg:w.heap[g]? = some (.cells cur e (0,0)))
  (a:Addr) (m c:Nat) (news:List Value) (hl:news.length = m * i.size) (hnews:∀ j u,news[j]? = some u → w.cell? (a.add j) = some u) (h1:∀ u ∈ news,u.oneCell' = true)
  (hroom:sLen + m ≤ sCap) (hfit:off + sLen * i.size + news.length ≤ cur.size) :
  (Builtin.append_ #[t,t] ty #[.slice (some ⟨g,off,none⟩) sLen sCap,.slice (some a) m c]).run P w =
   .ok (.slice (some ⟨g,off,none⟩) (sLen + m) sCap) (w.setRow g (cur.toList.take (off + sLen * i.size) ++ news ++ cur.toList.drop (off + sLen * i.size + news.length)).toArray):=by
 have hf:=run_firstCells_some (P:=P) w i.size m a m c news hl hnews
 have hst:=run_storeCells_at P g (off + sLen * i.size) e news 0 cur w hg (by simpa using hfit) h1
 simp only [Nat.add_zero] at hst
 have hadd:(⟨g,off,none⟩:Addr).add (sLen * i.size) = ⟨g,off + sLen * i.size,none⟩:=by unfold Addr.add; split <;> simp_all
 simp [Builtin.append_,run_underlying ht,sizeOf,typeInfo,hi,Builtin.lenOf,hroom,hf,hadd,hst]
theorem run_appW (w:World) (hE:ElemT P t e z size bytes) (ty:TypeId) (base:Nat) {v:Value} {n:Nat} {xs:List Value} (hown:Win w base e size v n xs)
  {A:Option Addr} {m c:Nat} {news:List Value} (hl:news.length = m * size) (hr:Rd w A news) (h1:∀ u ∈ news,u.oneCell' = true) (hm0:0 < m)
  (h63:n + m ≤ maxLen) (hbytes:(n + m) * bytes ≤ 140737488355328) (hbase:base ≤ w.heap.size) :
  ∃ v' w',(Builtin.append_ #[t,t] ty #[v,.slice A m c]).run P w = .ok v' w' ∧ Win w' base e size v' (n + m) (xs ++ news) ∧ w.grownBy w' v.ownBlock ∧
    (v'.ownBlock = v.ownBlock ∨ v'.ownBlock = some w.heap.size):=by
 obtain ⟨i,hi,hz0,hz1,hz2⟩:=info_parts hE.info
 rcases hown.2 with ⟨rfl,rfl⟩ | ⟨g,off,cap,cur,rfl,hb,hg,h2,h3,h4,h5⟩
 ·have hx:xs = []:=List.eq_nil_of_length_eq_zero (by simpa using hown.1)
  subst hx
  obtain ⟨v',w',a1,a2,a3,a4⟩:=run_app w hE ty base (World.ownsRow_nil w base e size) hl hr h1 h63 hbytes hbase (c:=c)
  exact ⟨v',w',a1,win_own a2,a3,a4⟩
 ·obtain ⟨ad,rfl,hcells⟩:=hr (by rw [hl]; exact Nat.mul_pos hm0 hE.pos)
  have hlen:(xs ++ news).length = (n + m) * size:=by rw [List.length_append,hown.1,hl,Nat.add_mul]
  by_cases hroom:n + m ≤ cap
  ·have hfit:off + n * i.size + news.length ≤ cur.size:=by
    rw [hl,hz1]
    have:(n + m) * size ≤ cap * size:=Nat.mul_le_mul_right _ hroom
    rw [Nat.add_mul] at this
    omega
   have hrun:=run_append_roomW w ty i hE.under hi g off n cap cur hg ad m c news (by rw [hz1]; exact hl) hcells h1 hroom hfit
   refine ⟨_,_,hrun,⟨hlen,.inr ⟨g,off,cap,_,rfl,hb,setRow_heap w g cur _ e _ hg,hroom,h3,?_,?_⟩⟩,⟨rfl,rfl,rfl,by simp,fun k _ hk=>setRow_other w g k _ (fun e=>hk (by simp [Value.ownBlock,e]))⟩,.inl rfl⟩
   ·simp only [List.size_toArray,List.length_append,List.length_take,List.length_drop,Array.length_toList]
    omega
   ·rw [hz1] at hfit ⊢
    simp only
    have e1:(cur.toList.take (off + n * size)).length = off + n * size:=by rw [List.length_take,Array.length_toList]; omega
    rw [List.append_assoc,List.drop_append_of_le_length (by omega),List.drop_take,Nat.add_sub_cancel_left,h5,← List.append_assoc,← hlen]
    exact List.take_left
  ·have hrun:=run_append_grow (P:=P) w t ty e i z hE.under hi hz0 ⟨g,off,none⟩ n cap xs (by rw [hz1]; exact hown.1) hown.cells ad m c news (by rw [hz1]; exact hl) hcells (by omega) (by simp only [maxLen] at h63; omega) (by rw [hz2]; exact growslice_fits (by omega) hbytes)
   have hge:=grownCap_ge w (n + m) cap e
   have hcm:grownCap w (n + m) cap e ≤ maxLen:=grownCap_le_maxLen w (n + m) cap e h63
   refine ⟨_,_,hrun,win_own ⟨hlen,.inr ⟨w.heap.size,_,_,rfl,hbase,heap_alloc_new w.drew _,hge,hcm,?_,?_⟩⟩,⟨rfl,rfl,rfl,by simp,fun k hk _=>heap_alloc_old w.drew _ hk⟩,.inr rfl⟩
   ·simp only [Array.size_append,List.size_toArray,size_zeroCells,hE.zsize,hown.1,hl,← Nat.add_mul]
    congr 1
    omega
   ·simp only [Array.toList_append,List.append_assoc]
    rw [← List.append_assoc,← hlen]
    exact List.take_left
theorem below_win {a w w':World} {v:Value} {B base:Nat} {n:Nat} {xs:List Value} (h:Below B a w) (hown:Win w base e size v n xs) (hg:w.grownBy w' v.ownBlock) (hB:B ≤ base) (hs:B ≤ w.heap.size):Below B a w' :=
 h.grown hg hs fun k hk=>Nat.le_trans hB (hown.lt k hk).1
theorem wp_appW (w:World) {o:Oper} {a:Act} {K:Act → World → Prop} {Q:Exit → Act → World → Prop} (hE:ElemT P t e z size bytes) (s x:Operand)
  (ho:o.op = .call { callee:=.builtin .append,args:=#[s,x],argTypes:=#[t,t] }) (base:Nat) {v:Value} {n:Nat} {xs:List Value} (hs:a.eval s = v) (hown:Win w base e size v n xs)
  {A:Option Addr} {m c:Nat} {news:List Value} (hx:a.eval x = .slice A m c) (hl:news.length = m * size) (hr:Rd w A news) (h1:∀ u ∈ news,u.oneCell' = true) (hm0:0 < m)
  (h63:n + m ≤ maxLen) (hbytes:(n + m) * bytes ≤ 140737488355328) (hbase:base ≤ w.heap.size) (N:Nat) (L:List Value) (hN:n + m = N) (hL:xs ++ news = L)
  (h:∀ v' w',Win w' base e size v' N L → Below base w w' → w.grownBy w' v.ownBlock → (v'.ownBlock = v.ownBlock ∨ v'.ownBlock = some w.heap.size) → K (a.put o.dst v') w'):o.wp P a w K Q:=by
 subst hN hL
 obtain ⟨v',w',hrun,h2,h3,h4⟩:=run_appW (P:=P) w hE o.type base hown (c:=c) hl hr h1 hm0 h63 hbytes hbase
 unfold Oper.wp execOp
 simp only [ho,resolve,invoke,builtin,Sem.run_bind,Sem.run_pure,Result.andThen_ok,List.map_toArray,List.map_cons,List.map_nil,hs,hx,hrun]
 exact h v' w' h2 (below_win (Below.refl _ _) hown h3 (Nat.le_refl _) hbase) h3 h4
theorem wpList_appW {w:World} {ops:Array Oper} {rest:List Oper} {o:Oper} {a:Act} {Q:Exit → Act → World → Prop} (hw:Region.wanted o (yielded ops a.tmps) = true) (hE:ElemT P t e z size bytes) (s x:Operand)
  (ho:o.op = .call { callee:=.builtin .append,args:=#[s,x],argTypes:=#[t,t] }) (base:Nat) {v:Value} {n:Nat} {xs:List Value} (hs:a.eval s = v) (hown:Win w base e size v n xs)
  {A:Option Addr} {m c:Nat} {news:List Value} (hx:a.eval x = .slice A m c) (hl:news.length = m * size) (hr:Rd w A news) (h1:∀ u ∈ news,u.oneCell' = true) (hm0:0 < m)
  (h63:n + m ≤ maxLen) (hbytes:(n + m) * bytes ≤ 140737488355328) (hbase:base ≤ w.heap.size) (N:Nat) (L:List Value) (hN:n + m = N) (hL:xs ++ news = L)
  (h:∀ v' w',Win w' base e size v' N L → Below base w w' → w.grownBy w' v.ownBlock → (v'.ownBlock = v.ownBlock ∨ v'.ownBlock = some w.heap.size) → wpList P ops Q rest (a.put o.dst v') w') :
  wpList P ops Q (o :: rest) a w :=
 wpList_step fun _ hK=>by rw [if_pos hw]; exact wp_appW w hE s x ho base hs hown hx hl hr h1 hm0 h63 hbytes hbase N L hN hL fun v' w' h2 h3 h4 h5=>hK _ _ (h v' w' h2 h3 h4 h5)
end
end Go.Proofs.YtehimhbgakpenaaGreat

namespace Go.Proofs.YtehimhbgakpenaaGreat
set_option linter.unusedVariables false
set_option linter.unusedSimpArgs false
open Go.RowKit Go.Maps Go.Sort
structure Wx where
 t:Nat
 l:Nat
 A:Option Addr
 bs:List UInt8
 c:Nat
def wxL (x:Wx):List Value:=[.int .i64 x.t,.int .i64 x.l,.slice x.A x.bs.length x.c]
def wxV:List Wx → List Value
 | []=>[]
 | x :: r=>wxL x ++ wxV r
theorem wxV_len (l:List Wx):(wxV l).length = l.length * 3:=by
 induction l with
 | nil=>rfl
 | cons x r ih=>simp only [wxV,wxL,List.length_append,List.length_cons,List.length_nil,ih]; omega
theorem wxV_append (a b:List Wx):wxV (a ++ b) = wxV a ++ wxV b:=by
 induction a with
 | nil=>rfl
 | cons x r ih=>simp only [List.cons_append,wxV,ih,List.append_assoc]
theorem wxL_one (x:Wx):∀ u ∈ wxL x,u.oneCell' = true:=by
 intro u hu
 simp only [wxL,List.mem_cons,List.not_mem_nil,or_false] at hu
 rcases hu with rfl | rfl | rfl <;> rfl
theorem wxV_one (l:List Wx):∀ u ∈ wxV l,u.oneCell' = true:=by
 induction l with
 | nil=>intro u hu; cases hu
 | cons x r ih =>
   intro u hu
   rcases List.mem_append.1 hu with h | h
   ·exact wxL_one x u h
   ·exact ih u h
theorem wxT:ElemT Tryz.prog 87 91 (.agg #[.int .i64 0,.int .i64 0,.slice none 0 0]) 3 40:=⟨Tryz.underlying87,by kernel_rfl,rfl,by omega⟩
def WxOwn (w:World) (x:Wx):Prop:=w.ownsRow 0 5 1 (.slice x.A x.bs.length x.c) x.bs.length (x.bs.map u8v)
noncomputable def envB (es:List Env):List (Nat × Nat × List UInt8):=es.map fun e=>(e.t,e.l,packB e.m)
def wxB (ws:List Wx):List (Nat × Nat × List UInt8):=ws.map fun x=>(x.t,x.l,x.bs)
structure Nm where
 g:Nat
 O:Option Addr
 cO:Nat
 L:Option Addr
 cL:Nat
 A1:Option Addr
 c1:Nat
 A2:Option Addr
 c2:Nat
 M:Nat → Sm
 col:Nat → Nat
def ptrN (M:Nat → Sm) (n:Nat):List Value:=(List.range n).map fun i=>.pointer (some ⟨(M i).g,0,none⟩)
theorem ptrN_len (M:Nat → Sm) (n:Nat):(ptrN M n).length = n:=by simp [ptrN]
theorem ptrN_get {M:Nat → Sm} {n i:Nat} (hi:i < n):(ptrN M n)[i]? = some (.pointer (some ⟨(M i).g,0,none⟩)):=by simp [ptrN,hi]
structure NtwAt (B0 Bn:Nat) (w0 w:World) (N:Nm) (n:Nat) (t:Tp) (S:Sps):Prop where
 bx:Box w N.g [.int .i64 t.n,.slice N.O t.ov.length N.cO,.slice N.L t.ln.length N.cL,.slice N.A1 n N.c1,.slice N.A2 n N.c2]
 tg:Ty w N.g 85
 gB:N.g < Bn
 rp:w.ownsRow B0 31 1 (.slice N.A1 n N.c1) n (ptrN N.M n)
 rO:Rd w N.O (boV t.ov) ∧ ∀ ad,0 < t.ov.length → N.O = some ad → ad.block < B0
 rL:Rd w N.L (lksV t.ln) ∧ ∀ ad,0 < t.ln.length → N.L = some ad → ad.block < B0
 lT:t.ov.length ≤ maxLen ∧ t.ln.length ≤ maxLen
 sp:∀ i,i < n → SpAt w (N.M i) (S i) N.col (i + 1)
 c0:∀ k,k < B0 → N.col k = 0
 bd:∀ i,i < n → (N.M i).gd < Bn ∧ (N.M i).gf < Bn
 bel:Below B0 w0 w
 b0:B0 ≤ Bn ∧ Bn ≤ w.heap.size
theorem spkp_imm:¬ MutT 31:=by unfold MutT; decide
theorem net_imm:¬ MutT 85:=by unfold MutT; decide
theorem env_imm:¬ MutT 91:=by unfold MutT; decide
theorem rd_old {w w':World} {A:Option Addr} {xs:List Value} {n B:Nat} (hr:Rd w A xs) (hb:∀ ad,0 < n → A = some ad → ad.block < B) (hn:0 < xs.length → 0 < n) (hk:∀ k,k < B → w'.heap[k]? = w.heap[k]?):Rd w' A xs:=fun hx=>by
 obtain ⟨ad,e,hc⟩:=hr hx
 refine ⟨ad,e,fun j u hu=>?_⟩
 have:=hb ad (hn hx) e
 have e2:w'.heap[(ad.add j).block]? = w.heap[(ad.add j).block]?:=by rw [addr_add_block]; exact hk _ this
 rw [World.cell?_of_block e2]
 exact hc j u hu
section
variable {B0 Bn:Nat} {w0 w w':World} {N:Nm} {n:Nat} {t:Tp} {S S':Sps}
theorem NtwAt.congr (h:NtwAt B0 Bn w0 w N n t S) (e:∀ i,i < n → S' i = S i):NtwAt B0 Bn w0 w N n t S' :=
 ⟨h.bx,h.tg,h.gB,h.rp,h.rO,h.rL,h.lT,fun i hi=>by rw [e i hi]; exact h.sp i hi,h.c0,h.bd,h.bel,h.b0⟩
theorem NtwAt.below (h:NtwAt B0 Bn w0 w N n t S) (hb:Below w.heap.size w w'):NtwAt B0 Bn w0 w' N n t S :=
 ⟨h.bx.later hb,TyPres.below hb _ _ h.tg,h.gB,own_below h.rp hb,⟨h.rO.1.below hb,h.rO.2⟩,⟨h.rL.1.below hb,h.rL.2⟩,h.lT,fun i hi=>(h.sp i hi).below hb,h.c0,h.bd,h.bel.trans (hb.mono (by have:=h.b0; omega)),⟨h.b0.1,Nat.le_trans h.b0.2 hb.size⟩⟩
theorem NtwAt.app (h:NtwAt B0 Bn w0 w N n t S) {k:Nat} {T:TypeId} (hg:w.grownBy w' (some k)) (ht:Ty w k T) (hT:MutS T) (hT2:T ≠ 31) (hk:Bn ≤ k):NtwAt B0 Bn w0 w' N n t S:=by
 have hbl:∀ j,j < w.heap.size → j ≠ k → w'.heap[j]? = w.heap[j]?:=fun j hj hne=>hg.block j hj (fun e=>hne (by injection e))
 have hb0:=h.b0
 refine ⟨h.bx.kept hg (fun e=>by have:=h.gB; injection e; omega) (by simp),?_,h.gB,?_,⟨rd_old h.rO.1 h.rO.2 (by rw [boV_len]; exact id) (fun j hj=>hbl j (by omega) (by omega)),h.rO.2⟩,⟨rd_old h.rL.1 h.rL.2 (by rw [lksV_len]; omega) (fun j hj=>hbl j (by omega) (by omega)),h.rL.2⟩,h.lT,
  fun i hi=>(h.sp i hi).app hg ht hT (by have:=(h.bd i hi).1; omega) (by have:=(h.bd i hi).2; omega),h.c0,h.bd,h.bel.trans ⟨hg.os,hg.tape,hg.output,hg.size,fun j hj=>hbl j (by omega) (by omega)⟩,⟨hb0.1,Nat.le_trans hb0.2 hg.size⟩⟩
 ·obtain ⟨cur,fr,e⟩:=h.tg
  exact ⟨cur,fr,(hbl _ (ty_lt h.tg) (by have:=h.gB; omega)).trans e⟩
 ·refine ⟨h.rp.1,?_⟩
  rcases h.rp.2 with e | ⟨j,cap,cur,e1,hgb,hh,r⟩
  ·exact .inl e
  ·refine .inr ⟨j,cap,cur,e1,hgb,(hbl j (h.rp.lt j (by rw [e1]; rfl)).2 (fun e2=>hT2 ?_)).trans hh,r⟩
   subst e2
   exact ty_ty ht (own_ty0 h.rp (by rw [e1]; rfl))
theorem NtwAt.app' (h:NtwAt B0 Bn w0 w N n t S) {v:Value} {m:Nat} {xs:List Value} (ho:Win w Bn 91 3 v m xs) (hg:w.grownBy w' v.ownBlock):NtwAt B0 Bn w0 w' N n t S:=by
 rcases e:v.ownBlock with _ | k
 ·rw [e] at hg
  exact h.below ⟨hg.os,hg.tape,hg.output,hg.size,fun j hj=>hg.block j hj (by simp)⟩
 ·rw [e] at hg
  obtain ⟨cur,hh⟩:=ho.ty k e
  exact h.app hg ⟨cur,_,hh⟩ (.inr (.inl rfl)) (by decide) (ho.lt k e).1
theorem NtwAt.turn (h:NtwAt B0 Bn w0 w N n t S) {i:Nat} (hi:i < n) {s':Sp} (hto:SpTo w (N.M i) N.col (i + 1) s' w') :
  ∃ N':Nm,N'.g = N.g ∧ N'.A1 = N.A1 ∧ N'.c1 = N.c1 ∧ N'.L = N.L ∧ N'.cL = N.cL ∧ (∀ j,(N'.M j).g = (N.M j).g) ∧ NtwAt B0 Bn w0 w' N' n t (updP S i s') ∧ Ev N.col (i + 1) w w':=by
 obtain ⟨m',col',eq,hcc,H,V⟩:=hto
 have hb0:=h.b0
 have hold:∀ k,k < B0 → w'.heap[k]? = w.heap[k]?:=fun k hk=>V.off (by omega) (fun e=>by have:=h.c0 k hk; omega)
 have hM:∀ j,((fun j=>if j = i then m' else N.M j) j).g = (N.M j).g:=fun j=>by
  by_cases e:j = i
  ·subst e; simp only [if_true]; exact eq.1
  ·simp only [if_neg e]
 have hptr:ptrN (fun j=>if j = i then m' else N.M j) n = ptrN N.M n:=by
  unfold ptrN
  refine List.map_congr_left fun j _=>?_
  rw [hM j]
 refine ⟨{ N with M:=fun j=>if j = i then m' else N.M j,col:=col' },rfl,rfl,rfl,rfl,rfl,hM,⟨V.boxT h.bx h.tg net_imm,V.ty _ _ h.tg,h.gB,?_,⟨rd_old h.rO.1 h.rO.2 (by rw [boV_len]; exact id) hold,h.rO.2⟩,⟨rd_old h.rL.1 h.rL.2 (by rw [lksV_len]; omega) hold,h.rL.2⟩,h.lT,fun j hj=>?_,fun k hk=>?_,fun j hj=>?_,h.bel.trans ⟨V.os,V.tape,V.output,V.size,hold⟩,⟨hb0.1,Nat.le_trans hb0.2 V.size⟩⟩,V⟩
 ·simp only [hptr]
  exact V.own h.rp spkp_imm
 ·by_cases e:j = i
  ·subst e
   simp only [if_true,updP_at]
   exact H
  ·simp only [if_neg e,updP_ne _ _ e]
   exact ((h.sp j hj).recol hcc).far V fun k hk e2=>⟨by rw [hcc k hk]; omega,by rw [hcc k hk]; omega⟩
 ·exact (hcc k (by omega)).trans (h.c0 k hk)
 ·by_cases e:j = i
  ·subst e
   simp only [if_true]
   rw [eq.2.2.1,eq.2.2.2.1]
   exact h.bd j hj
  ·simp only [if_neg e]
   exact h.bd j hj
end
def WayAt (w:World) (Bn:Nat) (v:Value) (es:List Env):Prop:=∃ ws:List Wx,Win w Bn 91 3 v ws.length (wxV ws) ∧ (∀ x ∈ ws,WxOwn w x) ∧ wxB ws = envB es
theorem WayAt.below {w w':World} {Bn:Nat} {v:Value} {es:List Env} (h:WayAt w Bn v es) (hb:Below w.heap.size w w'):WayAt w' Bn v es:=by
 obtain ⟨ws,h1,h2,h3⟩:=h
 exact ⟨ws,h1.below hb,fun x hx=>own_below (h2 x hx) hb,h3⟩
theorem WayAt.ev {w w':World} {Bn:Nat} {v:Value} {es:List Env} (h:WayAt w Bn v es) {E:Nat → Prop} (he:Eff E w w'):WayAt w' Bn v es:=by
 obtain ⟨ws,h1,h2,h3⟩:=h
 exact ⟨ws,h1.kept fun k hk=>by obtain ⟨cur,e⟩:=h1.ty k hk; exact he.typed ⟨cur,_,e⟩ env_imm,fun x hx=>he.own (h2 x hx) u8_imm,h3⟩
theorem wx_other {w w':World} {Bn:Nat} {v:Value} {m:Nat} {xs:List Value} (ho:Win w Bn 91 3 v m xs) (hg:w.grownBy w' v.ownBlock) {x:Wx} (hx:WxOwn w x):WxOwn w' x:=by
 refine ⟨hx.1,?_⟩
 rcases hx.2 with e | ⟨k,cap,cur,e1,hgb,hh,r⟩
 ·exact .inl e
 ·refine .inr ⟨k,cap,cur,e1,hgb,(hg.block k (hx.lt k (by rw [e1]; rfl)).2 (fun e2=>?_)).trans hh,r⟩
  obtain ⟨cur2,e3⟩:=ho.ty k e2.symm
  rw [hh] at e3
  injection e3 with e3
  injection e3 with _ e3 _
  cases e3
end Go.Proofs.YtehimhbgakpenaaGreat

namespace Go.Proofs.YtehimhbgakpenaaGreat
set_option linter.unusedVariables false
set_option linter.unusedSimpArgs false
open Go.RowKit Go.Maps Go.Sort
structure PtAt (w wr:World) (ls:List Lk) (i:Nat) (l:List (Int × Ms)) (k:Nat) (A:Option Addr) (c:Nat) (ws:List Wx):Prop where
 b:Below w.heap.size w wr
 ow:wr.ownsRow w.heap.size 91 3 (.slice A ws.length c) ws.length (wxV ws)
 so:∀ x ∈ ws,WxOwn wr x
 eq:wxB ws = envB ((postE ls i l).take k)
theorem PtAt.below {w wr w':World} {ls:List Lk} {i:Nat} {l:List (Int × Ms)} {k:Nat} {A:Option Addr} {c:Nat} {ws:List Wx} (h:PtAt w wr ls i l k A c ws) (hb:Below wr.heap.size wr w'):PtAt w w' ls i l k A c ws :=
 ⟨h.b.trans (hb.mono h.b.size),own_below h.ow hb,fun x hx=>own_below (h.so x hx) hb,h.eq⟩
def PostPost (w:World) (es:List Env) (e:Ending) (w':World):Prop :=
 ∃ A c ws,e = .returned (.slice A ws.length c) ∧ w'.ownsRow w.heap.size 91 3 (.slice A ws.length c) ws.length (wxV ws) ∧ (∀ x ∈ ws,WxOwn w' x) ∧ wxB ws = envB es ∧ Below w.heap.size w w'
theorem sx_cells {w:World} {A:Option Addr} {l:List Sx} (h:Rd w A (sxV l)) (k:Nat) (hk:k < l.length):∃ b off,A = some ⟨b,off,none⟩ ∧ w.cell? ⟨b,off + k * 2,none⟩ = some (.int .i64 l[k].l) ∧ w.cell? ⟨b,off + k * 2 + 1,none⟩ = some (.slice l[k].A l[k].bs.length l[k].c):=by
 obtain ⟨b,off,e,hc⟩:=rd_at h (by rw [sxV_len]; omega)
 have key:∀ (l:List Sx) (k:Nat) (hk:k < l.length),(sxV l)[k * 2]? = some (.int .i64 l[k].l) ∧ (sxV l)[k * 2 + 1]? = some (.slice l[k].A l[k].bs.length l[k].c):=fun l=>by
  induction l with
  | nil=>intro k hk; simp at hk
  | cons s r ih =>
    intro k hk
    cases k with
    | zero=>exact ⟨rfl,rfl⟩
    | succ k =>
      have:=ih k (by simpa using hk)
      rw [show (k + 1) * 2 = k * 2 + 1 + 1 by omega]
      exact this
 obtain ⟨k1,k2⟩:=key l k hk
 refine ⟨b,off,e,hc (k * 2) _ k1,?_⟩
 have:=hc (k * 2 + 1) _ k2
 rwa [show off + (k * 2 + 1) = off + k * 2 + 1 by omega] at this
theorem wrapI8 {z:Int} (h0:0 ≤ z) (h1:z ≤ 1000000):IntKind.i64.wrap z = z:=IntWalk.i64_in z (by omega)
theorem hob_of {w:World} {base:Nat} {T:TypeId} {size:Nat} {A:Option Addr} {n c:Nat} {xs:List Value} (h:w.ownsRow base T size (.slice A n c) n xs) {b o:Nat} (e:A = some ⟨b,o,none⟩):(Value.slice (some ⟨b,o,none⟩) n c).ownBlock = some b:=by
 subst e
 rcases h.2 with ⟨e,_⟩ | ⟨g,cap,cur,e,_⟩
 ·cases e
 ·injection e with e _ _
  injection e with e
  injection e with e1 e2
  subst e1 e2
  rfl
set_option maxRecDepth 100000 in
set_option maxHeartbeats 6400000 in
theorem post_any {B0 Bn:Nat} {w0 w:World} {N:Nm} {n:Nat} {t:Tp} {S:Sps} (h:NtwAt B0 Bn w0 w N n t S) (ht:TpOk t) (i:Nat) (v:Value) (base:Nat) (l:List (Int × Ms)) (hv:SndsAt w base v l) (hl:∀ x ∈ l,∃ k j:Nat,x.1 = (k:Int) ∧ Lnk t i k j) (hlen:l.length ≤ 100000) :
  Calls Tryz.prog 25 #[.pointer (some ⟨N.g,0,none⟩),.int .i64 (i:Int),v] w (PostPost w (postE t.ln i l)):=by
 obtain ⟨A,c,sx,rfl,ho,hso,hse⟩:=hv
 have hsl:sx.length = l.length:=by
  have:=congrArg List.length hse
  simpa [sentB] using this
 have hll:(postE t.ln i l).length = l.length:=by simp [postE]
 have h0:PtAt w w t.ln i l 0 none 0 []:=⟨Below.refl _ _,World.ownsRow_nil _ _ _ _,fun x hx=>absurd hx (by simp),by simp [wxB,envB]⟩
 have hget:∀ k (hk:k < sx.length),∃ (q j:Nat) (m:Ms),l[k]? = some ((q:Int),m) ∧ sx[k].l = (q:Int) ∧ sx[k].bs = packB m ∧ Lnk t i q j ∧ envB ((postE t.ln i l).take (k + 1)) = envB ((postE t.ln i l).take k) ++ [(j,q,packB m)]:=fun k hk=>by
  have hk2:k < l.length:=by omega
  obtain ⟨q,j,hq,hlk⟩:=hl _ (List.getElem_mem hk2)
  refine ⟨q,j,l[k].2,?_,?_,?_,hlk,?_⟩
  ·rw [List.getElem?_eq_getElem hk2,← hq]
  ·have:=congrArg (fun z=>z[k]?) hse
   simp only [List.getElem?_map,List.getElem?_eq_getElem hk,sentB,List.getElem?_eq_getElem hk2,Option.map_some,Option.some.injEq,Prod.mk.injEq] at this
   rw [this.1,hq]
  ·have:=congrArg (fun z=>z[k]?) hse
   simp only [List.getElem?_map,List.getElem?_eq_getElem hk,sentB,List.getElem?_eq_getElem hk2,Option.map_some,Option.some.injEq,Prod.mk.injEq] at this
   exact this.2
  ·rw [List.take_succ_eq_append_getElem (by omega)]
   unfold envB
   rw [List.map_append]
   congr 1
   simp only [postE,List.getElem_map,List.map_cons,List.map_nil,hq,Int.toNat_natCast,oth_lnk hlk.symm]
 have hsx:=own_slice ho
 have hL:=h.rL.1
 have hc2:=h.bx.c 2 rfl
 have hlt:=ht.ln
 have hso':∀ s ∈ sx,WxOwn w ⟨0,0,s.A,s.bs,s.c⟩:=fun s hs=>own_mono (hso s hs) (Nat.zero_le _)
 have hTs:Hid (∀ b o,A = some ⟨b,o,none⟩ → Ty w b 148):=fun b o e=>own_ty0 ho (by rw [e]; exact hob_of ho e)
 replace hget:=Lib.hid hget
 replace hsx:=Lib.hid hsx
 replace hL:=Lib.hid hL
 replace hc2:=Lib.hid hc2
 replace hso':=Lib.hid hso'
 have hend:Hid (sx.length = l.length):=hsl
 rw [← hsl] at hlen
 replace hll:=Lib.hid hll
 replace ht:=Lib.hid ht
 replace h0:=Lib.hid h0
 clear h ho hso hse hl hsl
 obtain ⟨ns,hns⟩:∃ ns,sx.length = ns:=⟨_,rfl⟩
 rw [hns] at hlen ⊢
 replace hns:=Lib.hid hns
 go_enter Tryz.func25,Tryz.ntmps25
 go_wp2_with fail
 go_loopw [7,8] (fun v7 v8 wr=>∃ (k:Nat) (A9:Option Addr) (c9:Nat) (ws:List Wx),v7 = .slice A9 ws.length c9 ∧ v8 = .int .i64 k ∧ k ≤ ns ∧ Hid (ws.length = k) ∧ Hid (PtAt w wr t.ln i l k A9 c9 ws)) (fun _ v8 _=>ns - (intOf v8).toNat)
 case atStart=>exact ⟨0,none,0,[],rfl,rfl,by omega,Lib.hid rfl,h0⟩
 case round =>
  clear h0
  obtain ⟨k,A9,c9,ws,rfl,rfl,hk,hwl,hp⟩:=hrel
  by_cases hkn:k < ns
  ·have hks:k < sx.length:=by rw [hns.out]; exact hkn
   obtain ⟨q,j,mm,hq1,hq2,hq3,hlk,hnx⟩:=hget.out k hks
   obtain ⟨x,hx,hab⟩:=hlk
   obtain ⟨hqL,hxe⟩:=List.getElem?_eq_some_iff.1 hx
   have hlo:=lk_ok ht.out hx
   have hoa:=hlo.a
   have hob:=hlo.b
   have htn:=ht.out.n
   have hij:x.a + x.b - i = j:=by omega
   have hsw:=hso'.out _ (List.getElem_mem hks)
   obtain ⟨bs,off,rfl,hs0,hs1⟩:=sx_cells (hsx.out.below hp.out.b) k hks
   rw [hq2] at hs0
   rw [hq3] at hs1 hsw
   obtain ⟨bl,ol,hLe,hlc⟩:=rd_lk (hL.out.below hp.out.b) (by omega)
   have hlc:=hlc q hqL
   rw [hxe] at hlc
   have k2:=cell_later hp.out.b hc2.out
   rw [hLe] at k2
   generalize sx[k].A = As at *
   generalize sx[k].c = cs at *
   generalize packB mm = bm at *
   have g0:decide ((q:Int) < 0) = false:=by simp
   have g1:decide ((t.ln.length:Int) ≤ (q:Int)) = false:=by simp; omega
   have l0:=hlc.c0
   have l1:=hlc.c1
   have l2:=hlc.c2
   have l3:=hlc.c3
   have l3':=hlc.c3'
   have l4:=hlc.c4
   have l5:=hlc.c5
   have l6:=hlc.c6
   replace hnx:=Lib.hid hnx
   clear hlc hx hxe hab hlo hq1 hq2 hq3
   go_upto_region 5 with fail
   go_quiet (fail)
   have hbq:=below_drewN (Below.refl wr.heap.size wr) nq
   have hp2:=hp.out.below hbq
   have r0:=cell_later hbq hs0
   have r1:=cell_later hbq hs1
   have r2:=cell_later hbq k2
   have m0:=cell_later hbq l0
   have m1:=cell_later hbq l1
   have m2:=cell_later hbq l2
   have m3:=cell_later hbq l3
   have m3':=cell_later hbq l3'
   have m4:=cell_later hbq l4
   have m5:=cell_later hbq l5
   have m6:=cell_later hbq l6
   clear hs0 hs1 k2 l0 l1 l2 l3 l3' l4 l5 l6 hp hlc hbq
   generalize wr.drewN nq = w2 at *
   go_upto_region 6 with fail
   go_cut [9] (fun v9 wx=>v9 = .pointer (some ⟨w2.heap.size,0,none⟩) ∧ wx = (World.alloc w2 (.cells #[.int .i64 x.a,.int .i64 x.b,.int .i64 x.c,.int .i64 x.d,.int .i64 x.cap,.int .i64 x.del,.int .i64 x.grp] 79)).drew)
   case first =>
    have hz:=below_new' w2 (.cells #[.int .i64 0,.int .i64 0,.int .i64 0,.int .i64 0,.int .i64 0,.int .i64 0,.int .i64 0] 79)
    have z0:=cell_later hz r0
    have z1:=cell_later hz r2
    have z2:=cell_later hz m0
    have z3:=cell_later hz m1
    have z4:=cell_later hz m2
    have z5:=cell_later hz m3
    have z6:=cell_later hz m3'
    have z7:=cell_later hz m4
    have z8:=cell_later hz m5
    have z9:=cell_later hz m6
    go_region_law (fail)
    all_goals go_wp2_with fail
    all_goals go_meet
    all_goals exact ⟨rfl,rfl⟩
   obtain ⟨rfl,rfl⟩:=hcut
   have S3:=((St.start w2).new' #[.int .i64 x.a,.int .i64 x.b,.int .i64 x.c,.int .i64 x.d,.int .i64 x.cap,.int .i64 x.del,.int .i64 x.grp] 79 w2.heap.size _ rfl rfl).drew
   have T3:Ty ((World.alloc w2 (.cells #[.int .i64 x.a,.int .i64 x.b,.int .i64 x.c,.int .i64 x.d,.int .i64 x.cap,.int .i64 x.del,.int .i64 x.grp] 79)).drew) w2.heap.size 79:=ty_new w2 #[.int .i64 x.a,.int .i64 x.b,.int .i64 x.c,.int .i64 x.d,.int .i64 x.cap,.int .i64 x.del,.int .i64 x.grp] 79
   have r0':=cell_later S3.b r0
   have r1':=cell_later S3.b r1
   have hp3:=hp2.below S3.b
   have q0:=S3.c 0 0 rfl rfl
   have q1:=S3.c 0 1 rfl rfl
   go_upto_region 7 with fail
   clear r0 r1 r2 m0 m1 m2 m3 m3' m4 m5 m6
   generalize World.drew (World.alloc w2 _) = w3 at *
   have hp4:=hp3.below (Below.refl w3.heap.size w3).drew
   have q0':w3.drew.cell? ⟨w2.heap.size,0,none⟩ = some (.int .i64 x.a):=q0
   have q1':w3.drew.cell? ⟨w2.heap.size,1,none⟩ = some (.int .i64 x.b):=q1
   have r0'':w3.drew.cell? ⟨bs,off + k * 2,none⟩ = some (.int .i64 (q:Int)):=r0'
   have r1'':w3.drew.cell? ⟨bs,off + k * 2 + 1,none⟩ = some (.slice As bm.length cs):=r1'
   have T3':Ty w3.drew w2.heap.size 79:=T3
   have Ts':Ty w3.drew bs 148:=TyPres.below hp4.b _ _ (hTs.out _ _ rfl)
   clear S3 q0 q1 r0' r1' hp3 T3
   refine wp_region_noPanic ?_
   refine wp_region_held_drew (S:=fun W=>W.cell? ⟨w2.heap.size,0,none⟩ = some (.int .i64 x.a) ∧ W.cell? ⟨w2.heap.size,1,none⟩ = some (.int .i64 x.b) ∧ W.cell? ⟨bs,off + k * 2,none⟩ = some (.int .i64 (q:Int)) ∧ W.cell? ⟨bs,off + k * 2 + 1,none⟩ = some (.slice As bm.length cs)) (by kernel_rfl) ⟨q0',q1',r0'',r1''⟩ (fun hHeld=>?_)
   generalize w3.drew = w4 at *
   refine take_first (i:=0) (v:=?_) (some 48) rfl rfl (by kernel_rfl) (by kernel_rfl) (by kernel_rfl) (fun _ _ _ h=>h) (Or.inl ⟨by rfl,?_⟩) (by assumption) ?_
   rotate_left
   ·intro w hSw; (try dsimp only at hSw); go_simp; (try with_reducible rfl)
   try simp only [Act.put,List.setIfInBounds_toArray,List.set_cons_succ,List.set_cons_zero]
   refine take_first (i:=1) (v:=?_) (some 49) rfl rfl (by kernel_rfl) (by kernel_rfl) (by kernel_rfl) (fun _ _ _ h=>h) (Or.inl ⟨by rfl,?_⟩) (by assumption) ?_
   rotate_left
   ·intro w hSw; (try dsimp only at hSw); go_simp; (try with_reducible rfl)
   try simp only [Act.put,List.setIfInBounds_toArray,List.set_cons_succ,List.set_cons_zero]
   refine take_first (i:=2) (v:=?_) (some 50) rfl rfl (by kernel_rfl) (by kernel_rfl) (by kernel_rfl) (fun _ _ _ h=>h) (Or.inl ⟨by rfl,?_⟩) (by assumption) ?_
   rotate_left
   ·intro w hSw; (try dsimp only at hSw); go_simp; (try with_reducible rfl)
   try simp only [Act.put,List.setIfInBounds_toArray,List.set_cons_succ,List.set_cons_zero]
   refine take_first (i:=3) (v:=?_) (some 51) rfl rfl (by kernel_rfl) (by kernel_rfl) (by kernel_rfl) (fun _ _ _ h=>h) (Or.inl ⟨by rfl,?_⟩) (by assumption) ?_
   rotate_left
   ·intro w hSw; (try dsimp only at hSw); go_simp; (try with_reducible rfl)
   try simp only [Act.put,List.setIfInBounds_toArray,List.set_cons_succ,List.set_cons_zero]
   refine take_first (i:=4) (v:=?_) (some 52) rfl rfl (by kernel_rfl) (by kernel_rfl) (by kernel_rfl) (fun _ _ _ h=>h) (Or.inl ⟨by rfl,?_⟩) (by assumption) ?_
   rotate_left
   ·intro w hSw; (try dsimp only at hSw); go_simp; (try with_reducible rfl)
   try simp only [Act.put,List.setIfInBounds_toArray,List.set_cons_succ,List.set_cons_zero]
   refine take_first (i:=5) (v:=?_) (some 53) rfl rfl (by kernel_rfl) (by kernel_rfl) (by kernel_rfl) (fun _ _ _ h=>h) (Or.inl ⟨by rfl,?_⟩) (by assumption) ?_
   rotate_left
   ·intro w hSw; (try dsimp only at hSw); go_simp; (try with_reducible rfl)
   try simp only [Act.put,List.setIfInBounds_toArray,List.set_cons_succ,List.set_cons_zero]
   refine take_first (i:=6) (v:=?_) (some 54) rfl rfl (by kernel_rfl) (by kernel_rfl) (by kernel_rfl) (fun _ _ _ h=>h) (Or.inl ⟨by rfl,?_⟩) (by assumption) ?_
   rotate_left
   ·intro w hSw; (try dsimp only at hSw); go_simp; (try with_reducible rfl)
   try simp only [Act.put,List.setIfInBounds_toArray,List.set_cons_succ,List.set_cons_zero]
   refine take_first (i:=7) (v:=?_) (some 55) rfl rfl (by kernel_rfl) (by kernel_rfl) (by kernel_rfl) (fun _ _ _ h=>h) (Or.inl ⟨by rfl,?_⟩) (by assumption) ?_
   rotate_left
   ·intro w hSw; (try dsimp only at hSw); go_simp; (try with_reducible rfl)
   try simp only [Act.put,List.setIfInBounds_toArray,List.set_cons_succ,List.set_cons_zero]
   refine take_first (i:=8) (v:=?_) (some 56) rfl rfl (by kernel_rfl) (by kernel_rfl) (by kernel_rfl) (fun _ _ _ h=>h) (Or.inl ⟨by rfl,?_⟩) (by assumption) ?_
   rotate_left
   ·intro w hSw; (try dsimp only at hSw); go_simp; (try with_reducible rfl)
   try simp only [Act.put,List.setIfInBounds_toArray,List.set_cons_succ,List.set_cons_zero]
   refine take_first (i:=9) (v:=?_) (some 57) rfl rfl (by kernel_rfl) (by kernel_rfl) (by kernel_rfl) (fun _ _ _ h=>h) (Or.inl ⟨by rfl,?_⟩) (by assumption) ?_
   rotate_left
   ·intro w hSw; (try dsimp only at hSw); go_simp; (try with_reducible rfl)
   try simp only [Act.put,List.setIfInBounds_toArray,List.set_cons_succ,List.set_cons_zero]
   refine take_first (i:=10) (v:=?_) (some 58) rfl rfl (by kernel_rfl) (by kernel_rfl) (by kernel_rfl) (fun _ _ _ h=>h) (Or.inl ⟨by rfl,?_⟩) (by assumption) ?_
   rotate_left
   ·intro w hSw; (try dsimp only at hSw); go_simp; (try with_reducible rfl)
   try simp only [Act.put,List.setIfInBounds_toArray,List.set_cons_succ,List.set_cons_zero]
   refine take_first (i:=11) (v:=?_) (some 59) rfl rfl (by kernel_rfl) (by kernel_rfl) (by kernel_rfl) (fun _ _ _ h=>h) (Or.inl ⟨by rfl,?_⟩) (by assumption) ?_
   rotate_left
   ·intro w hSw; (try dsimp only at hSw); go_simp; (try with_reducible rfl)
   try simp only [Act.put,List.setIfInBounds_toArray,List.set_cons_succ,List.set_cons_zero]
   refine take_first (i:=12) (v:=?_) (some 60) rfl rfl (by kernel_rfl) (by kernel_rfl) (by kernel_rfl) (fun _ _ _ h=>h) (Or.inl ⟨by rfl,?_⟩) (by assumption) ?_
   rotate_left
   ·intro w hSw; (try dsimp only at hSw); go_simp; (try with_reducible rfl)
   try simp only [Act.put,List.setIfInBounds_toArray,List.set_cons_succ,List.set_cons_zero]
   refine take_first (i:=13) (v:=?_) (some 61) rfl rfl (by kernel_rfl) (by kernel_rfl) (by kernel_rfl) (fun _ _ _ h=>h) (Or.inl ⟨by rfl,?_⟩) (by assumption) ?_
   rotate_left
   ·intro w hSw; (try dsimp only at hSw); go_simp; (try with_reducible rfl)
   try simp only [Act.put,List.setIfInBounds_toArray,List.set_cons_succ,List.set_cons_zero]
   refine take_first (i:=14) (v:=?_) (some 62) rfl rfl (by kernel_rfl) (by kernel_rfl) (by kernel_rfl) (fun _ _ _ h=>h) (Or.inl ⟨by rfl,?_⟩) (by assumption) ?_
   rotate_left
   ·intro w hSw; (try dsimp only at hSw); go_simp; (try with_reducible rfl)
   try simp only [Act.put,List.setIfInBounds_toArray,List.set_cons_succ,List.set_cons_zero]
   refine take_first (i:=15) (v:=?_) (some 63) rfl rfl (by kernel_rfl) (by kernel_rfl) (by kernel_rfl) (fun _ _ _ h=>h) (Or.inl ⟨by rfl,?_⟩) (by assumption) ?_
   rotate_left
   ·intro w hSw; (try dsimp only at hSw); go_simp; (try with_reducible rfl)
   try simp only [Act.put,List.setIfInBounds_toArray,List.set_cons_succ,List.set_cons_zero]
   refine take_first (i:=16) (v:=?_) (some 64) rfl rfl (by kernel_rfl) (by kernel_rfl) (by kernel_rfl) (fun _ _ _ h=>h) (Or.inl ⟨by rfl,?_⟩) (by assumption) ?_
   rotate_left
   ·intro w hSw; (try dsimp only at hSw); go_simp; (try with_reducible rfl)
   try simp only [Act.put,List.setIfInBounds_toArray,List.set_cons_succ,List.set_cons_zero]
   refine take_first (i:=17) (v:=?_) (some 65) rfl rfl (by kernel_rfl) (by kernel_rfl) (by kernel_rfl) (fun _ _ _ h=>h) (Or.inl ⟨by rfl,?_⟩) (by assumption) ?_
   rotate_left
   ·intro w hSw; (try dsimp only at hSw); go_simp; (try with_reducible rfl)
   try simp only [Act.put,List.setIfInBounds_toArray,List.set_cons_succ,List.set_cons_zero]
   refine take_first (i:=18) (v:=?_) (some 66) rfl rfl (by kernel_rfl) (by kernel_rfl) (by kernel_rfl) (fun _ _ _ h=>h) (Or.inl ⟨by rfl,?_⟩) (by assumption) ?_
   rotate_left
   ·intro w hSw; (try dsimp only at hSw); go_simp; (try with_reducible rfl)
   try simp only [Act.put,List.setIfInBounds_toArray,List.set_cons_succ,List.set_cons_zero]
   have hw:IntKind.i64.wrap (IntKind.i64.wrap (x.a + x.b) - (i:Int)) = (j:Int):=by
    rw [wrapI8 (z:=x.a + x.b) (by omega) (by omega),hij,wrapI8 (by omega) (by omega)]
   rw [hw]
   clear hw
   have hb5:=below_new' w4 (.cells #[.int .i64 (j:Int),.int .i64 (q:Int),.slice As bm.length cs] 91)
   have hp5:=hp4.below hb5
   have rd5:=Rd.lit w4 #[.int .i64 (j:Int),.int .i64 (q:Int),.slice As bm.length cs] 91
   rw [show (#[.int .i64 (j:Int),.int .i64 (q:Int),.slice As bm.length cs]:Array Value).toList = wxL ⟨j,q,As,bm,cs⟩ from rfl] at rd5
   have hown5:=hp5.ow
   have hsz:=Lib.hid hp5.b.size
   refine wpAnyH_ready (rs:=[19]) (by kernel_rfl) (by simp) ?_
   refine AllReadyH.cons rfl (fun K hK=>?_) AllReadyH.nil
   go_simp
   refine hK.out _ _ ⟨cell_later hb5 q0',cell_later hb5 q1',cell_later hb5 r0'',cell_later hb5 r1''⟩ (fun hHeld=>?_)
   clear hK K
   refine wpAnyH_ready (rs:=[20]) (by kernel_rfl) (by simp) ?_
   refine AllReadyH.cons rfl (fun K hK=>?_) AllReadyH.nil
   refine step_appG rfl wxT (.tmp 48) (.tmp 67) (by rfl) w.heap.size (by rfl) hown5 (by rfl) (m:=1) (by rfl) rd5 (wxL_one ⟨j,q,As,bm,cs⟩) (by have:=hwl.out; simp only [maxLen]; omega) (by have:=hwl.out; omega) hsz.out (ws.length + 1) _ rfl rfl ?_
   intro v6 w6 ho6 hb6 hg6
   obtain ⟨A6,c6,rfl,-⟩:=own_rd ho6
   have e6:=ty_other (TyPres.below hb5 _ _ T3') hown5 (by decide) hg6
   have e7:=ty_other (TyPres.below hb5 _ _ Ts') hown5 (by decide) hg6
   refine hK.out _ _ ⟨(World.cell?_of_block (a:=⟨w2.heap.size,0,none⟩) e6).trans (cell_later hb5 q0'),(World.cell?_of_block (a:=⟨w2.heap.size,1,none⟩) e6).trans (cell_later hb5 q1'),(World.cell?_of_block (a:=⟨bs,off + k * 2,none⟩) e7).trans (cell_later hb5 r0''),(World.cell?_of_block (a:=⟨bs,off + k * 2 + 1,none⟩) e7).trans (cell_later hb5 r1'')⟩ (fun hHeld=>?_)
   clear hK K
   refine take_first (i:=21) (v:=.slice A6 (ws.length + 1) c6) (some 7) rfl rfl (by kernel_rfl) (by kernel_rfl) (by kernel_rfl) (fun _ _ _ h=>h) (Or.inl ⟨by rfl,fun _ _=>rfl⟩) (by assumption) ?_
   try simp only [Act.put,List.setIfInBounds_toArray,List.set_cons_succ,List.set_cons_zero]
   refine wpAnyH_done (by kernel_rfl) ?_ _
   refine NoPanic.normal ?_
   clear hHeld e6 e7 q0' q1' r0'' r1'' T3' Ts'
   have hP9:Hid (PtAt w w6 t.ln i l (k + 1) A6 c6 (ws ++ [⟨j,q,As,bm,cs⟩])):=by
    have hb5':=hp5.b
    refine ⟨below_own hb5' hown5 hg6 (Nat.le_refl _) hb5'.size,?_,fun y hy=>?_,?_⟩
    ·rw [List.length_append,wxV_append]
     exact ho6
    ·have hy2:WxOwn (World.alloc w4 (.cells #[.int .i64 (j:Int),.int .i64 (q:Int),.slice As bm.length cs] 91)) y:=by
      rcases List.mem_append.1 hy with h1 | h1
      ·exact hp5.so y h1
      ·rw [List.mem_singleton] at h1
       subst h1
       exact own_below hsw hb5'
     exact own_other hy2 hown5 (by decide) hg6
    ·rw [hnx.out,← hp5.eq]
     simp [wxB]
   have hwl9:Hid ((ws ++ [(⟨j,q,As,bm,cs⟩:Wx)]).length = k + 1):=Lib.hid (by rw [List.length_append,hwl.out]; rfl)
   clear hp5 hp4 hp2 hown5 hsz rd5 hb5 ho6 hb6 hg6 hnx hsw
   go_wp2_with fail
   go_round
   case rel=>exact ⟨k + 1,A6,c6,ws ++ [⟨j,q,As,bm,cs⟩],by simp,by go_num,by omega,hwl9,hP9⟩
   case measure=>simp [intOf]; omega
  ·have hkk:k = ns:=by omega
   have hf:PostPost w (postE t.ln i l) (.returned (.slice A9 ws.length c9)) wr:=by
    refine ⟨A9,c9,ws,rfl,hp.out.ow,hp.out.so,?_,hp.out.b⟩
    rw [hp.out.eq,List.take_of_length_le (by rw [hll.out,← hend.out,hns.out]; omega)]
   have e1:decide ((k:Int) < (ns:Int)) = false:=by simp; omega
   clear hp hkk
   go_wp2_with fail
   go_ret
   exact hf
end Go.Proofs.YtehimhbgakpenaaGreat

namespace Go.Proofs.YtehimhbgakpenaaGreat
set_option linter.unusedVariables false
set_option linter.unusedSimpArgs false
open Go.RowKit
section
variable {P:Program} {t e:TypeId} {z:Value} {size bytes:Nat}
theorem run_app0 (w:World) (hE:ElemT P t e z size bytes) (ty:TypeId) (base:Nat) {v:Value} {n:Nat} {xs:List Value} (hown:Win w base e size v n xs) (A:Option Addr) (c:Nat) :
  ∃ w',(Builtin.append_ #[t,t] ty #[v,.slice A 0 c]).run P w = .ok v w' ∧ Win w' base e size v n xs ∧ w.grownBy w' v.ownBlock:=by
 obtain ⟨i,hi,hz0,hz1,hz2⟩:=info_parts hE.info
 rcases hown.2 with ⟨rfl,rfl⟩ | ⟨g,off,cap,cur,rfl,hb,hg,h2,h3,h4,h5⟩
 ·refine ⟨w,?_,hown,⟨rfl,rfl,rfl,Nat.le_refl _,fun _ _ _=>rfl⟩⟩
  cases A <;> simp [Builtin.append_,run_underlying hE.under,sizeOf,typeInfo,hi,Builtin.lenOf,Builtin.firstCells,loadCells,loadCellsFrom]
 ·cases A with
  | none =>
    refine ⟨w,?_,hown,⟨rfl,rfl,rfl,Nat.le_refl _,fun _ _ _=>rfl⟩⟩
    simp [Builtin.append_,run_underlying hE.under,sizeOf,typeInfo,hi,Builtin.lenOf,Builtin.firstCells,h2,storeCells]
  | some ad =>
    have hfit:off + n * i.size + ([]:List Value).length ≤ cur.size:=by
     rw [hz1]
     have:n * size ≤ cap * size:=Nat.mul_le_mul_right _ h2
     simp only [List.length_nil]
     omega
    have hrun:=run_append_roomW w ty i hE.under hi g off n cap cur hg ad 0 c [] (by simp) (by simp) (by simp) h2 hfit
    refine ⟨_,hrun,?_,⟨rfl,rfl,rfl,by simp,fun k _ hk=>setRow_other w g k _ (fun e=>hk (by simp [Value.ownBlock,e]))⟩⟩
    refine ⟨hown.1,.inr ⟨g,off,cap,_,rfl,hb,setRow_heap w g cur _ e _ hg,h2,h3,?_,?_⟩⟩
    ·simp only [List.size_toArray,List.length_append,List.length_take,List.length_drop,Array.length_toList,List.length_nil] at hfit ⊢
     omega
    ·simp only [List.append_nil,List.length_nil,Nat.add_zero,List.take_append_drop]
     exact h5
theorem wpList_appW0 {w:World} {ops:Array Oper} {rest:List Oper} {o:Oper} {a:Act} {Q:Exit → Act → World → Prop} (hw:Region.wanted o (yielded ops a.tmps) = true) (hE:ElemT P t e z size bytes) (s x:Operand)
  (ho:o.op = .call { callee:=.builtin .append,args:=#[s,x],argTypes:=#[t,t] }) (base:Nat) {v:Value} {n:Nat} {xs:List Value} (hs:a.eval s = v) (hown:Win w base e size v n xs)
  {A:Option Addr} {m c:Nat} {news:List Value} (hx:a.eval x = .slice A m c) (hl:news.length = m * size) (hr:Rd w A news) (h1:∀ u ∈ news,u.oneCell' = true)
  (h63:n + m ≤ maxLen) (hbytes:(n + m) * bytes ≤ 140737488355328) (hbase:base ≤ w.heap.size)
  (h:∀ v' w',Win w' base e size v' (n + m) (xs ++ news) → Below base w w' → w.grownBy w' v.ownBlock → wpList P ops Q rest (a.put o.dst v') w') :
  wpList P ops Q (o :: rest) a w:=by
 rcases Nat.eq_zero_or_pos m with rfl | hm0
 ·have hn:news = []:=List.eq_nil_of_length_eq_zero (by simpa using hl)
  subst hn
  refine wpList_step fun _ hK=>?_
  rw [if_pos hw]
  obtain ⟨w',hrun,h2,h3⟩:=run_app0 (P:=P) w hE o.type base hown A c
  unfold Oper.wp execOp
  simp only [ho,resolve,invoke,builtin,Sem.run_bind,Sem.run_pure,Result.andThen_ok,List.map_toArray,List.map_cons,List.map_nil,hs,hx,hrun]
  exact hK _ _ (h v w' (by simpa using h2) (below_win (Below.refl _ _) hown h3 (Nat.le_refl _) hbase) h3)
 ·exact wpList_appW hw hE s x ho base hs hown hx hl hr h1 hm0 h63 hbytes hbase _ _ rfl rfl fun v' w' a1 a2 a3 _=>h v' w' a1 a2 a3
end
end Go.Proofs.YtehimhbgakpenaaGreat

namespace Go.Proofs.YtehimhbgakpenaaGreat
set_option linter.unusedVariables false
set_option linter.unusedSimpArgs false
open Go.RowKit Go.Maps Go.Sort
structure TkOk (t:Tp) (n:Nat) (S:Sps):Prop where
 tp:TpOk t
 n64:n ≤ 64
 ok:∀ i,i < n → SpOk (S i)
 tm:∀ i,i < n → (S i).tm ≤ 999999999
 lk:∀ i,i < n → ∀ x ∈ (ticS (S i)).2,∃ k j:Nat,x.1 = (k:Int) ∧ Lnk t i k j
 ct:(tickW t.ln n S).length ≤ 100000
noncomputable def tkTo8 (S:Sps) (i:Nat):Sps:=fun j=>if j < i then (ticS (S j)).1 else S j
theorem tkTo8_next (S:Sps) (i:Nat):∀ j,updP (tkTo8 S i) i (ticS (S i)).1 j = tkTo8 S (i + 1) j:=fun j=>by
 unfold updP tkTo8
 by_cases e:j = i
 ·subst e; rw [if_pos rfl,if_pos (by omega)]
 ·rw [if_neg e]
  by_cases e2:j < i
  ·rw [if_pos e2,if_pos (by omega)]
  ·rw [if_neg e2,if_neg (by omega)]
theorem tickW_le (ls:List Lk) (S:Sps) {i n:Nat} (hi:i ≤ n):(tickW ls i S).length ≤ (tickW ls n S).length:=by
 unfold tickW
 obtain ⟨d,rfl⟩:=Nat.le.dest hi
 rw [List.range_add,List.flatMap_append,List.length_append]
 omega
theorem tickW_next (ls:List Lk) (S:Sps) (i:Nat):tickW ls (i + 1) S = tickW ls i S ++ postE ls i (ticS (S i)).2:=by
 unfold tickW
 rw [List.range_succ,List.flatMap_append]
 simp
structure WyAt (w:World) (Bn:Nat) (A:Option Addr) (c:Nat) (ws:List Wx) (es:List Env):Prop where
 ow:w.ownsRow Bn 91 3 (.slice A ws.length c) ws.length (wxV ws)
 so:∀ x ∈ ws,WxOwn w x
 eq:wxB ws = envB es
section
variable {w w':World} {Bn:Nat} {A:Option Addr} {c:Nat} {ws:List Wx} {es:List Env}
theorem WyAt.below (h:WyAt w Bn A c ws es) (hb:Below w.heap.size w w'):WyAt w' Bn A c ws es:=⟨own_below h.ow hb,fun x hx=>own_below (h.so x hx) hb,h.eq⟩
theorem WyAt.ev (h:WyAt w Bn A c ws es) {E:Nat → Prop} (he:Eff E w w'):WyAt w' Bn A c ws es:=⟨he.own h.ow env_imm,fun x hx=>he.own (h.so x hx) u8_imm,h.eq⟩
theorem WyAt.way (h:WyAt w Bn A c ws es):WayAt w Bn (.slice A ws.length c) es:=⟨ws,win_own h.ow,h.so,h.eq⟩
theorem WyAt.len (h:WyAt w Bn A c ws es):ws.length = es.length:=by
 have:=congrArg List.length h.eq
 simpa [wxB,envB] using this
end
def SameN (N N':Nm):Prop:=N'.g = N.g
def TickP (B0 Bn:Nat) (w0:World) (N:Nm) (n:Nat) (t:Tp) (S':Sps) (es:List Env) (e:Ending) (w':World):Prop :=
 ∃ N' A c ws,SameN N N' ∧ e = .returned (.slice A ws.length c) ∧ NtwAt B0 Bn w0 w' N' n t S' ∧ WyAt w' Bn A c ws es
set_option maxRecDepth 100000 in
set_option maxHeartbeats 6400000 in
theorem ntick_any {B0 Bn:Nat} {w0 w:World} {N:Nm} {n:Nat} {t:Tp} {S:Sps} (h:NtwAt B0 Bn w0 w N n t S) (ok:TkOk t n S) :
  Calls Tryz.prog 23 #[.pointer (some ⟨N.g,0,none⟩)] w (TickP B0 Bn w0 N n t (tickS S) (tickW t.ln n S)):=by
 have h0:NtwAt B0 Bn w0 w N n t (tkTo8 S 0):=h.congr fun i _=>by unfold tkTo8; rw [if_neg (by omega)]
 have hw0:WyAt w Bn none 0 [] (tickW t.ln 0 S):=⟨World.ownsRow_nil _ _ _ _,fun x hx=>absurd hx (by simp),by simp [wxB,envB,tickW]⟩
 have hn:=ok.n64
 have hs0:SameN N N:=rfl
 replace h0:=Lib.hid h0
 replace hw0:=Lib.hid hw0
 replace ok:=Lib.hid ok
 replace hs0:=Lib.hid hs0
 clear h
 go_enter Tryz.func23,Tryz.ntmps23
 go_wp2_with fail
 go_loopw [3,4] (fun v3 v4 wr=>∃ (i:Nat) (N1:Nm) (A:Option Addr) (c:Nat) (ws:List Wx),v3 = .slice A ws.length c ∧ v4 = .int .i64 i ∧ i ≤ n ∧ Hid (SameN N N1) ∧ Hid (NtwAt B0 Bn w0 wr N1 n t (tkTo8 S i)) ∧ Hid (WyAt wr Bn A c ws (tickW t.ln i S))) (fun _ v4 _=>n - (intOf v4).toNat)
 case atStart=>exact ⟨0,N,none,0,[],rfl,rfl,by omega,hs0,h0,hw0⟩
 case round =>
  clear h0 hw0 hs0
  obtain ⟨i,N1,A,c,ws,rfl,rfl,hi,hs1,h1,hw1⟩:=hrel
  have x3:=h1.out.bx.c 3 rfl
  rw [hs1.out] at x3
  by_cases hin:i < n
  ·obtain ⟨b1,off1,hA1,z1⟩:=rd_at (own_slice h1.out.rp) (by rw [ptrN_len]; omega)
   have z:=z1 i _ (ptrN_get hin)
   rw [hA1] at x3
   have hSi:tkTo8 S i i = S i:=by unfold tkTo8; rw [if_neg (by omega)]
   have hsp:=h1.out.sp i hin
   rw [hSi] at hsp
   have TK:=Lib.hid (spTick_any wr (N1.M i) (S i) N1.col (i + 1) hsp (ok.out.ok i hin) (ok.out.tm i hin))
   clear z1 hA1 hsp hSi
   go_wp2_with fail
   (with_reducible refine (TK.out).mono ?_)
   rintro e w3 ⟨v3,rfl,hs3,hto⟩
   clear TK
   obtain ⟨N2,e1,-,-,-,-,-,h2,V2⟩:=h1.out.turn hin hto
   have h2:=h2.congr fun j _=>(tkTo8_next S i j).symm
   have hw2:=hw1.out.ev V2
   have hs2:SameN N N2:=e1.trans hs1.out
   have hlenp:(ticS (S i)).2.length ≤ 100000:=by
    have h5:=tickW_le t.ln S (show i + 1 ≤ n by omega)
    have h6:=ok.out.ct
    rw [tickW_next,List.length_append] at h5
    have:(postE t.ln i (ticS (S i)).2).length = (ticS (S i)).2.length:=by simp [postE]
    omega
   have PO:=post_any h2 ok.out.tp i v3 wr.heap.size _ hs3 (ok.out.lk i hin) hlenp
   rw [hs2] at PO
   unfold PostPost at PO
   replace PO:=Lib.hid PO
   replace hs2:=Lib.hid hs2
   clear hs3 hto V2 hlenp
   go_wp2_with fail
   (with_reducible refine (PO.out).mono ?_)
   rintro e w4 ⟨A4,c4,ws4,rfl,ho4,hso4,he4,hb4⟩
   clear PO
   have h4:=h2.below hb4
   have hw4:=hw2.below hb4
   have hl4:ws4.length = (postE t.ln i (ticS (S i)).2).length:=by
    have:=congrArg List.length he4
    simpa [wxB,envB] using this
   have htot:ws.length + ws4.length ≤ 100000:=by
    have h5:=tickW_le t.ln S (show i + 1 ≤ n by omega)
    have h6:=ok.out.ct
    rw [tickW_next,List.length_append] at h5
    have:=hw2.len
    omega
   clear hl4
   have hsz4:=Lib.hid h4.b0.2
   have hown4:=hw4.ow
   have rd4:=own_slice ho4
   have hL:Hid (wxV ws ++ wxV ws4 = wxV (ws ++ ws4)):=(wxV_append _ _).symm
   go_wp2_with (at_builtin; refine wpList_appG rfl wxT (.tmp 14) (.tmp 25) rfl Bn rfl hown4 (m:=ws4.length) rfl (wxV_len ws4) rd4 (wxV_one ws4) (by simp only [maxLen]; omega) (by omega) hsz4.out (ws.length + ws4.length) _ rfl hL.out ?_; intro v6 w6 ho6 hb6 hg6; obtain ⟨A6,c6,rfl,-⟩:=own_rd ho6)
   have h6:=Lib.hid (h4.app' (win_own hown4) hg6)
   have hw6:Hid (WyAt w6 Bn A6 c6 (ws ++ ws4) (tickW t.ln (i + 1) S)):=by
    refine ⟨by rw [List.length_append]; exact ho6,fun x hx=>?_,?_⟩
    ·rcases List.mem_append.1 hx with h7 | h7
     ·exact wx_other (win_own hown4) hg6 (hw4.so x h7)
     ·exact wx_other (win_own hown4) hg6 (hso4 x h7)
    ·rw [tickW_next]
     unfold wxB envB
     rw [List.map_append,List.map_append]
     have a:=hw4.eq
     unfold wxB envB at a he4
     rw [a,he4]
   clear ho6 hb6 hg6 hL rd4 hown4 hsz4 htot hw4 h4 hb4 he4 hso4 ho4 hw2 h2
   go_round
   case rel=>exact ⟨i + 1,N2,A6,c6,ws ++ ws4,by rw [List.length_append],by go_num,by omega,hs2,h6,hw6⟩
   case measure=>simp [intOf]; omega
  ·have hii:i = n:=by omega
   have hf:TickP B0 Bn w0 N n t (tickS S) (tickW t.ln n S) (.returned (.slice A ws.length c)) wr:=by
    refine ⟨N1,A,c,ws,hs1.out,rfl,?_,by rw [← hii]; exact hw1.out⟩
    refine h1.out.congr fun j hj=>?_
    unfold tkTo8 tickS
    rw [if_pos (by omega)]
   have e1:decide ((i:Int) < (n:Int)) = false:=by simp; omega
   clear h1 hw1 hii
   go_wp2_with fail
   go_ret
   exact hf
end Go.Proofs.YtehimhbgakpenaaGreat

namespace Go.Proofs.YtehimhbgakpenaaGreat
set_option linter.unusedVariables false
set_option linter.unusedSimpArgs false
open Go.RowKit Go.Maps Go.Sort
theorem unp_pack8 {m:Ms} (h:msB m = true) (hu:∀ p ∈ m.y.pre,p.1 < 4294967296):unpE (msEnc m) = 0 ∧ unpM (msEnc m) = m:=by
 obtain ⟨hb,hc⟩:=ms_cases h
 have hl:=msVal_len h
 have hk:1 ≤ m.k ∧ m.k ≤ 255:=by
  rcases hc with ⟨e,_⟩ | ⟨e,_⟩ <;> omega
 have hd:decO (msEnc m) = some [(m.k,msVal m)]:=by
  have:=decO_enc1 (m.k,msVal m) hk.1 hk.2 (by simp only; omega) []
  rw [List.append_nil,decO_nil] at this
  exact this
 have hR:unpR (m.k,msVal m) = m ∧ unpE1 (m.k,msVal m) = 0:=by
  obtain ⟨k,n,b,hh,y⟩:=m
  simp only at *
  rcases hc with ⟨rfl,⟨h1,h2⟩,⟨h3,h4⟩,rfl⟩ | ⟨hk2,rfl,rfl,hy⟩
  ·have hlen:(msVal ⟨1,n,b,hh,laZero⟩).length = 10:=by simp [msVal,numB_len]
   have hR:unpR (1,msVal ⟨1,n,b,hh,laZero⟩) = ⟨1,n,b,hh,laZero⟩:=by
    unfold unpR msVal
    simp only [if_true]
    rw [take_num,drop_num,take_num]
    have e6:(numB n.toNat 2 ++ (numB b.toNat 4 ++ numB hh.toNat 4)).drop 6 = numB hh.toNat 4:=by
     rw [← List.append_assoc]
     exact List.drop_left' (by simp [numB_len])
    rw [e6,List.take_of_length_le (by rw [numB_len]; exact Nat.le_refl _)]
    rw [uint_num _ _ (by omega),uint_num _ _ (by omega),uint_num _ _ (by omega),Int.toNat_of_nonneg (by omega),Int.toNat_of_nonneg (by omega),Int.toNat_of_nonneg (by omega)]
   refine ⟨hR,?_⟩
   unfold unpE1
   rw [if_pos rfl,hR,if_pos ⟨hlen,h⟩]
  ·have hk1:k ≠ 1:=by omega
   have hv:msVal ⟨k,0,b,0,y⟩ = numB b.toNat 4 ++ laEnc y:=by unfold msVal; rw [if_neg hk1]
   rw [hv]
   have hR:unpR (k,numB b.toNat 4 ++ laEnc y) = ⟨k,0,b,0,y⟩:=by
    unfold unpR
    simp only
    rw [if_neg hk1,take_num,drop_num,uint_num _ _ (by omega),Int.toNat_of_nonneg (by omega),(ldec_yes ⟨⟨hy,hu⟩,rfl⟩).2]
   refine ⟨hR,?_⟩
   unfold unpE1
   simp only
   rw [if_neg hk1,if_pos hk2,if_neg (by rw [List.length_append,numB_len]; omega),drop_num,laEnc_chk,if_neg (by simp),hR,if_pos h]
 unfold unpE unpM
 rw [hd]
 simp only
 rw [hR.2,if_pos rfl,hR.1]
 exact ⟨rfl,rfl⟩
set_option maxRecDepth 100000 in
set_option maxHeartbeats 3200000 in
theorem packs8_any (w:World):Calls Tryz.prog 26 #[] w fun e w'=>e = .returned (.bool true) ∧ Below w.heap.size w w':=by
 have hb:msB ⟨1,3,1,2,laZero⟩ = true:=by simp [msB,wiB,emB,laZero]
 have P:∀ W,Calls Tryz.prog 70 #[.agg #[.int .i64 1,.int .i64 3,.int .i64 1,.int .i64 2,.int .i64 0,.int .i64 0,.int .i64 0,.bool false,.slice none 0 0,.slice none 0 0]] W fun e w'=>∃ A c,e = .returned (.tuple #[.slice A 13 c,.int .i64 0]) ∧ w'.ownsRow W.heap.size 5 1 (.slice A 13 c) 13 (([1,0,10,0,3,0,0,0,1,0,0,0,2]:List UInt8).map u8v) ∧ Below W.heap.size W w':=fun W=>by
  have:=spack_any W _ ⟨1,3,1,2,laZero⟩ ⟨none,0,none,0,rfl,(laZero_own W W.heap.size).at⟩
  have e1:packB ⟨1,3,1,2,laZero⟩ = [1,0,10,0,3,0,0,0,1,0,0,0,2]:=by
   unfold packB
   rw [if_pos hb]
   rfl
  unfold PackPost at this
  rw [e1] at this
  unfold packE at this
  rw [if_pos hb] at this
  exact this
 replace P:=Lib.hid P
 clear hb
 go_enter Tryz.func26,Tryz.ntmps26
 go_wp2_with fail
 (with_reducible refine (P.out _).mono ?_)
 rintro e w1 ⟨A,c,rfl,o,hb⟩
 have cv:=conv_bytes w1 Tryz.underlying89 Tryz.underlying5 Tryz.underlying9 (n:=13) (cap:=c) (own_rdp o).1 rfl
 go_wp2_with fail
 go_ret
 exact ⟨rfl,hb⟩
theorem rcv_net {S:Sp} {l:Nat} {m:Ms} {x:Nat} (hm:msB m = true) (hu:m.y.pre = []) (hf:fndS S.ps (l:Int) = some x) (hx:x < S.ps.length) (hn:m.k = 1 → m.n = S.ps[x].o):rcvS S (l:Int) (packB m) = (recS S x m,0):=by
 have hp:packB m = msEnc m:=by unfold packB; rw [if_pos hm]
 obtain ⟨h1,h2⟩:=unp_pack8 hm (by rw [hu]; intro p hp; cases hp)
 unfold rcvS
 rw [hf,hp,h1,h2]
 simp only [List.getElem?_eq_getElem hx]
 rw [if_neg (by simp),if_neg (fun h=>h.2 (hn h.1))]
theorem pack_len {m:Ms}:(packB m).length ≤ 100000:=by
 unfold packB
 split
 ·next h =>
  have:=msVal_len h
  have h2:=ms_cases h
  unfold msEnc
  rw [enc1_len]
  simp only
  omega
 ·simp
section
variable {P:Par} {n:Nat} {dead:Nat → Nat → Prop} {T:Int} {S:Sps} {e:Env} {way:List Env}
theorem len_mu:∀ l:List Env,l.length ≤ mu l
 | []=>by simp [mu]
 | e :: l=>by
   have:=len_mu l
   have:1 ≤ muE e:=by unfold muE; split <;> omega
   simp only [mu,List.length_cons]
   omega
theorem Ivn.links (hP:ParOk P) (hn:P.t.n = n) (h:Ivn P n dead T S []) (hT0:0 ≤ T) (hT2:T ≤ 1700):∀ i,i < n → ∀ x ∈ (ticS (S i)).2,∃ k j:Nat,x.1 = (k:Int) ∧ Lnk P.t i k j:=fun i hi x hx=>by
 have hs:=h.st i hi
 have hq:=h.quiet hP hT0 hT2 hi
 rw [(tickS_at hs.ok hq.1 hq.2.1 hq.2.2).2] at hx
 rcases List.mem_append.1 hx with hx | hx
 ·split at hx
  ·obtain ⟨p',hp',rfl⟩:=List.mem_map.1 hx
   obtain ⟨p,hp,rfl⟩:=List.mem_map.1 hp'
   obtain ⟨j,_,h1,_,hl⟩:=lnk_of hP.t hn hs hp
   exact ⟨_,j,h1,hl⟩
  ·cases hx
 ·obtain ⟨⟨q,y⟩,hqy,rfl⟩:=List.mem_map.1 hx
  obtain ⟨l,o,D1,z,rfl,_,hD,_⟩:=snd_mem8.1 hqy
  obtain ⟨D0,h2,rfl⟩:=tik_at hD
  obtain ⟨p,hp,hl,_⟩:=(hs.ok.up l).1 (by rw [h2]; rfl)
  obtain ⟨j,_,_,_,hlnk⟩:=lnk_of hP.t hn hs hp
  rw [hl,Int.toNat_natCast] at hlnk
  exact ⟨l,j,rfl,hlnk⟩
def FewP (P:Par) (n:Nat):Prop:=n ≤ 64 ∧ 2 * (n * (P.t.ln.length + P.t.ln.length * n)) ≤ 4000
theorem Ivn.tkok (hP:ParOk P) (hn:P.t.n = n) (hf:FewP P n) (h:Ivn P n dead T S []) (hT0:0 ≤ T) (hT2:T ≤ 1700):TkOk P.t n S :=
 ⟨hP.t,hf.1,fun i hi=>(h.st i hi).ok,fun i hi=>by rw [h.tm i hi]; omega,h.links hP hn hT0 hT2,by have:=h.count hP hn hT0 hT2; have:=hf.2; omega⟩
theorem Ivn.nopre (h:Ivn P n dead T S (e :: way)) (hd:¬ dead e.t e.l):e.m.y.pre = []:=by
 rcases h.gw e (by simp) with h1 | ⟨_,i,_,_,_,hc⟩
 ·exact absurd h1 hd
 ·rcases hc with ⟨_,_,_,_,h5⟩ | ⟨_,_,_,_,h5,_⟩
  ·rw [h5]; rfl
  ·exact h5.p
theorem Ivn.elnk (h:Ivn P n dead T S (e :: way)) (hd:¬ dead e.t e.l):∃ i,Lnk P.t e.t e.l i:=by
 rcases h.gw e (by simp) with h1 | ⟨_,i,_,hl,_⟩
 ·exact absurd h1 hd
 ·exact ⟨i,hl.symm⟩
end
end Go.Proofs.YtehimhbgakpenaaGreat

namespace Go.Proofs.YtehimhbgakpenaaGreat
set_option linter.unusedVariables false
set_option linter.unusedSimpArgs false
open Go.RowKit Go.Maps Go.Sort
structure WvAt (w:World) (Bn:Nat) (A:Option Addr) (c:Nat) (ws:List Wx) (es:List Env):Prop where
 ow:Win w Bn 91 3 (.slice A ws.length c) ws.length (wxV ws)
 so:∀ x ∈ ws,WxOwn w x
 eq:wxB ws = envB es
section
variable {w w':World} {Bn:Nat} {A:Option Addr} {c:Nat} {ws:List Wx} {es:List Env}
theorem WyAt.wv (h:WyAt w Bn A c ws es):WvAt w Bn A c ws es:=⟨win_own h.ow,h.so,h.eq⟩
theorem WvAt.below (h:WvAt w Bn A c ws es) (hb:Below w.heap.size w w'):WvAt w' Bn A c ws es:=⟨h.ow.below hb,fun x hx=>own_below (h.so x hx) hb,h.eq⟩
theorem WvAt.ev (h:WvAt w Bn A c ws es) {E:Nat → Prop} (he:Eff E w w'):WvAt w' Bn A c ws es :=
 ⟨h.ow.kept fun k hk=>by obtain ⟨cur,e⟩:=h.ow.ty k hk; exact he.typed ⟨cur,_,e⟩ env_imm,fun x hx=>he.own (h.so x hx) u8_imm,h.eq⟩
theorem WvAt.len (h:WvAt w Bn A c ws es):ws.length = es.length:=by
 have:=congrArg List.length h.eq
 simpa [wxB,envB] using this
theorem WvAt.nil (h:WvAt w Bn A c [] es):es = []:=by
 have:=h.len
 exact List.eq_nil_of_length_eq_zero (by simpa using this.symm)
theorem WvAt.cons {x:Wx} {r:List Wx} (h:WvAt w Bn A c (x :: r) es):∃ e es',es = e :: es' ∧ x.t = e.t ∧ x.l = e.l ∧ x.bs = packB e.m ∧ WvAt w Bn (subS 3 A 1 c) (c - 1) r es' ∧
  ∃ b off,A = some ⟨b,off,none⟩ ∧ w.cell? ⟨b,off,none⟩ = some (.int .i64 e.t) ∧ w.cell? ⟨b,off + 1,none⟩ = some (.int .i64 e.l) ∧ w.cell? ⟨b,off + 2,none⟩ = some (.slice x.A x.bs.length x.c):=by
 cases es with
 | nil=>have:=h.eq; simp [wxB,envB] at this
 | cons e es' =>
   have heq:=h.eq
   simp only [wxB,envB,List.map_cons,List.cons.injEq,Prod.mk.injEq] at heq
   obtain ⟨⟨e1,e2,e3⟩,e4⟩:=heq
   refine ⟨e,es',rfl,e1,e2,e3,⟨?_,fun y hy=>h.so y (List.mem_cons_of_mem _ hy),e4⟩,?_⟩
   ·have:=h.ow.from 1 (by simp) (by omega)
    simpa [wxV,wxL] using this
   ·obtain ⟨b,off,e5,hc⟩:=rd_at h.ow.rd (by rw [wxV_len]; simp)
    have h0:=hc 0 (.int .i64 x.t) rfl
    have h1:=hc 1 (.int .i64 x.l) rfl
    have h2:=hc 2 (.slice x.A x.bs.length x.c) rfl
    rw [e1] at h0
    rw [e2] at h1
    exact ⟨b,off,e5,h0,h1,h2⟩
end
def dead0:Nat → Nat → Prop:=fun _ _=>False
def RunP (B0 Bn:Nat) (w0:World) (N:Nm) (P:Par) (n:Nat) (T0 T':Int) (e:Ending) (w':World):Prop :=
 ∃ N' S',e = .returned (.bool true) ∧ SameN N N' ∧ NtwAt B0 Bn w0 w' N' n P.t S' ∧ RunOk P n dead0 T0 T' S'
set_option maxRecDepth 100000 in
set_option maxHeartbeats 12800000 in
theorem nrun_any {B0 Bn:Nat} {w0 w:World} {N:Nm} {P:Par} {n:Nat} {S:Sps} {T0 T:Int} (hP:ParOk P) (hn:P.t.n = n) (hf:FewP P n) (hT:0 ≤ T) (hTc:P.H + 1 ≤ T0) (hc:ConnP P n dead0) (h:NtwAt B0 Bn w0 w N n P.t S) (hr:RunOk P n dead0 T0 T S) (zn:Nat) (z:Int) (hz:z = zn) (hz2:T + z ≤ 1700) :
  Calls Tryz.prog 20 #[.pointer (some ⟨N.g,0,none⟩),.int .i64 z] w (RunP B0 Bn w0 N P n T0 (T + z)):=by
 have hs0:SameN N N:=rfl
 have hr0:RunOk P n dead0 T0 (T + ((0:Nat):Int)) S:=by rw [show T + ((0:Nat):Int) = T by simp]; exact hr
 subst hz
 replace h:=Lib.hid h
 replace hr0:=Lib.hid hr0
 replace hs0:=Lib.hid hs0
 replace hf:=Lib.hid hf
 replace hn:=Lib.hid hn
 replace hP:=Lib.hid hP
 replace hc:=Lib.hid hc
 clear hr
 go_enter Tryz.func20,Tryz.ntmps20
 go_wp2_with fail
 go_loopw [5] (fun v5 wr=>∃ (k:Nat) (N1:Nm) (S1:Sps),v5 = .int .i64 k ∧ k ≤ zn ∧ Hid (SameN N N1) ∧ Hid (NtwAt B0 Bn w0 wr N1 n P.t S1) ∧ Hid (RunOk P n dead0 T0 (T + (k:Int)) S1)) (fun v5 _=>zn - (intOf v5).toNat)
 case atStart=>exact ⟨0,N,S,rfl,by omega,hs0,h,hr0⟩
 case round =>
  clear h hr0 hs0
  obtain ⟨k,N1,S1,rfl,hk,hs1,h1,hr1⟩:=hrel
  by_cases hkz:k < zn
  ·have tk:=hr1.out.iv.tkok hP.out hn.out hf.out (by omega) (by omega)
   have hct:=hr1.out.iv.count hP.out hn.out (by omega) (by omega)
   have hst:=Rnd.start hP.out hn.out (fun _ _ _ _ h=>h) hr1.out.iv (by omega) (by omega)
   have TK:=ntick_any h1.out tk
   rw [hs1.out] at TK
   unfold TickP at TK
   have hmu0:Hid (0 + mu (tickW P.t.ln n S1) ≤ 4000):=by
    have h5:=mu_le (tickW P.t.ln n S1)
    have h6:=hf.out.2
    exact Lib.hid (by omega)
   replace TK:=Lib.hid TK
   replace hst:=Lib.hid hst
   clear tk hct h1
   go_wp2_with fail
   (with_reducible refine (TK.out).mono ?_)
   rintro e w3 ⟨N3,A,c,ws,hs3,rfl,h3,hw3⟩
   clear TK
   have hs3':Hid (SameN N N3):=hs3.trans hs1.out
   have hw3:=Lib.hid hw3.wv
   replace h3:=Lib.hid h3
   clear hs3 hs1
   go_wp2_with fail
   go_loopw [6,7] (fun v6 v7 wr=>∃ (cnt:Nat) (N3:Nm) (S3:Sps) (way:List Env) (A:Option Addr) (c:Nat) (ws:List Wx),v6 = .slice A ws.length c ∧ v7 = .int .i64 cnt ∧ Hid (SameN N N3) ∧ Hid (NtwAt B0 Bn w0 wr N3 n P.t S3) ∧ Hid (WvAt wr Bn A c ws way) ∧ Hid (Rnd P n dead0 (T + (k:Int) + 1) S1 S3 way) ∧ Hid (cnt + mu way ≤ 4000)) (fun _ v7 _=>4001 - (intOf v7).toNat)
   case atStart=>exact ⟨0,N3,_,_,A,c,ws,rfl,rfl,hs3',h3,hw3,hst,hmu0⟩
   case round =>
    clear h3 hw3 hst hmu0 hs3'
    obtain ⟨cnt,N3,S3,way,A,c,ws,rfl,rfl,hs3,h3,hw3,hrd,hmu⟩:=hrel
    rcases ws with _ | ⟨x,r⟩
    ·have hwn:=hw3.out.nil
     subst hwn
     have hr9:Hid (RunOk P n dead0 T0 (T + ((k + 1:Nat):Int)) S3):=by
      have:=hr1.out.next hP.out hc.out hTc hrd.out
      rw [show T + ((k + 1:Nat):Int) = T + (k:Int) + 1 by omega]
      exact this
     clear hw3 hrd hmu hr1
     go_wp2_with fail
     go_round
     case rel=>exact ⟨k + 1,N3,S3,by go_num,by omega,hs3,h3,hr9⟩
     case measure=>simp [intOf]; omega
    ·obtain ⟨e,es,rfl,e1,e2,e3,hw4,b,off,rfl,y0,y1,y2⟩:=hw3.out.cons
     have hnd:¬ dead0 e.t e.l:=fun h=>h
     obtain ⟨het,hms,px,hpx,hfnd,hpl,hpn,DL⟩:=hrd.out.iv.dlv hP.out (by omega) (by omega) hnd
     have hrcv:=rcv_net hms (hrd.out.iv.nopre hnd) hfnd hpx hpn
     have hnx:=hrd.out.dlv DL
     have hmux:=mu_dlv DL
     have hcnt:cnt + (mu (es ++ postE P.t.ln e.t (recS (S3 e.t) px e.m).2) + 1) ≤ 4000:=by
      have:=hmu.out
      omega
     have hlk:∀ y ∈ (recS (S3 e.t) px e.m).2,∃ q j:Nat,y.1 = (q:Int) ∧ Lnk P.t e.t q j:=fun y hy=>by
      obtain ⟨j,hj⟩:=hrd.out.iv.elnk hnd
      exact ⟨e.l,j,(DL.ok y hy).1,hj⟩
     have hol:(recS (S3 e.t) px e.m).2.length ≤ 100000:=by
      have:=DL.ct
      split at this <;> omega
     have hso:=hw3.out.so x (by simp)
     rw [e3] at y2
     obtain ⟨hbs,hc1,hc2,_⟩:=own_read hso
     rw [e3] at hbs hc1
     have RC:=fun W (hb:Below wr.heap.size wr W)=>spRecv_any W (N3.M e.t) (S3 e.t) N3.col (e.t + 1) ((h3.out.sp e.t het).below hb) (hrd.out.iv.st e.t het).ok (e.l:Int) x.A _ x.c (packB e.m) (hbs.below hb) rfl hc1 hc2 pack_len
     simp only [hrcv] at RC
     have x3:=h3.out.bx.c 3 rfl
     rw [hs3.out] at x3
     obtain ⟨b1,off1,hA1,z1⟩:=rd_at (own_slice h3.out.rp) (by rw [ptrN_len]; omega)
     have zp:=z1 e.t _ (ptrN_get het)
     rw [hA1] at x3
     replace hA1:=Lib.hid hA1
     have hsl:∀ W,(Instr.slice 87 (.slice (some ⟨b,off,none⟩) (r.length + 1) c) (some (.int .i64 1)) none none).run Tryz.prog W = .ok (.slice (subS 3 (some ⟨b,off,none⟩) 1 c) r.length (c - 1)) W:=fun W=>run_fromS wxT (some ⟨b,off,none⟩) (r.length + 1) c 1 (by omega) W
     obtain ⟨A',hA'⟩:∃ A',subS 3 (some ⟨b,off,none⟩) 1 c = A':=⟨_,rfl⟩
     rw [hA'] at hsl hw4
     obtain ⟨out,hout⟩:∃ out,(recS (S3 e.t) px e.m).2 = out:=⟨_,rfl⟩
     obtain ⟨s',hs'⟩:∃ s',(recS (S3 e.t) px e.m).1 = s':=⟨_,rfl⟩
     simp only [show recS (S3 e.t) px e.m = (s',out) by rw [← hout,← hs']] at RC
     rw [hout] at hcnt hlk hol hnx
     rw [hs'] at hnx
     have e2':=hw3.out.len
     have hwl:(r.length + 1) ≤ 4000:=by
      have:=len_mu (e :: es)
      have:=hmu.out
      simp only [List.length_cons] at *
      omega
     obtain ⟨nb,hnb⟩:∃ nb,(packB e.m).length = nb:=⟨_,rfl⟩
     simp only [hnb] at RC
     rw [hnb] at y2
     replace RC:=Lib.hid RC
     replace hnx:=Lib.hid hnx
     replace hlk:=Lib.hid hlk
     replace hcnt:=Lib.hid hcnt
     replace hw4:=Lib.hid hw4
     clear hw3 hrd hmu hso hbs hc1 hc2 hmux DL hrcv hpn hpl hfnd hms z1 hnb hout hs' e2' hnd e3 e1 e2 hA'
     simp only [List.length_cons]
     have S6:=((St.start wr).new' #[.int .i64 (e.t:Int),.int .i64 (e.l:Int),.slice x.A nb x.c] 91 wr.heap.size _ rfl rfl)
     have h6:=h3.out.below S6.b
     have hw6:=hw4.out.below S6.b
     have x3':=cell_later S6.b x3
     have zp':=cell_later S6.b zp
     have q0:=S6.c 0 0 rfl rfl
     have q1:=S6.c 0 1 rfl rfl
     have q2:=S6.c 0 2 rfl rfl
     have RC6:=RC.out _ (S6.b.trans (Below.refl _ _).drew)
     have T6:=ty_new wr #[.int .i64 (e.t:Int),.int .i64 (e.l:Int),.slice x.A nb x.c] 91
     have bx6:=S6.box 0 rfl
     unfold RecvPost at RC6
     replace RC6:=Lib.hid RC6
     replace h6:=Lib.hid h6
     replace hw6:=Lib.hid hw6
     go_upto_region 10 with fail
     clear x3 zp y0 y1 y2 hsl RC h3 hw4 S6
     generalize World.alloc wr _ = w6 at *
     generalize wr.heap.size = kb at *
     have h7:=Lib.hid (h6.out.below (Below.refl w6.heap.size w6).drew)
     have hw7:=Lib.hid (hw6.out.below (Below.refl w6.heap.size w6).drew)
     have bx7:=bx6.later (Below.refl w6.heap.size w6).drew
     have T7:Ty w6.drew kb 91:=T6
     have x37:w6.drew.cell? ⟨N.g,3,none⟩ = some (.slice (some ⟨b1,off1,none⟩) n N3.c1):=x3'
     have zp7:w6.drew.cell? ⟨b1,off1 + e.t,none⟩ = some (.pointer (some ⟨(N3.M e.t).g,0,none⟩)):=zp'
     clear h6 hw6 bx6 T6 x3' zp' q0 q1 q2
     refine wp_region_noPanic ?_
     refine wp_region_held_drew (S:=fun W=>W.cell? ⟨N.g,3,none⟩ = some (.slice (some ⟨b1,off1,none⟩) n N3.c1) ∧ W.cell? ⟨b1,off1 + e.t,none⟩ = some (.pointer (some ⟨(N3.M e.t).g,0,none⟩)) ∧ W.cell? ⟨kb,0,none⟩ = some (.int .i64 (e.t:Int)) ∧ W.cell? ⟨kb,1,none⟩ = some (.int .i64 (e.l:Int)) ∧ W.cell? ⟨kb,2,none⟩ = some (.slice x.A nb x.c)) (by kernel_rfl) ⟨x37,zp7,bx7.c 0 rfl,bx7.c 1 rfl,bx7.c 2 rfl⟩ (fun hHeld=>?_)
     generalize w6.drew = w7 at *
     refine take_first (i:=0) (v:=?_) (some 29) rfl rfl (by kernel_rfl) (by kernel_rfl) (by kernel_rfl) (fun _ _ _ h=>h) (Or.inl ⟨by rfl,?_⟩) (by assumption) ?_
     rotate_left
     ·intro w hSw; (try dsimp only at hSw); go_simp; (try with_reducible rfl)
     try simp only [Act.put,List.setIfInBounds_toArray,List.set_cons_succ,List.set_cons_zero]
     refine take_first (i:=1) (v:=?_) (some 30) rfl rfl (by kernel_rfl) (by kernel_rfl) (by kernel_rfl) (fun _ _ _ h=>h) (Or.inl ⟨by rfl,?_⟩) (by assumption) ?_
     rotate_left
     ·intro w hSw; (try dsimp only at hSw); go_simp; (try with_reducible rfl)
     try simp only [Act.put,List.setIfInBounds_toArray,List.set_cons_succ,List.set_cons_zero]
     refine take_first (i:=2) (v:=?_) (some 31) rfl rfl (by kernel_rfl) (by kernel_rfl) (by kernel_rfl) (fun _ _ _ h=>h) (Or.inl ⟨by rfl,?_⟩) (by assumption) ?_
     rotate_left
     ·intro w hSw; (try dsimp only at hSw); go_simp; (try with_reducible rfl)
     try simp only [Act.put,List.setIfInBounds_toArray,List.set_cons_succ,List.set_cons_zero]
     refine take_first (i:=3) (v:=?_) (some 32) rfl rfl (by kernel_rfl) (by kernel_rfl) (by kernel_rfl) (fun _ _ _ h=>h) (Or.inl ⟨by rfl,?_⟩) (by assumption) ?_
     rotate_left
     ·intro w hSw; (try dsimp only at hSw); go_simp; (try with_reducible rfl)
     try simp only [Act.put,List.setIfInBounds_toArray,List.set_cons_succ,List.set_cons_zero]
     refine take_first (i:=4) (v:=?_) (some 33) rfl rfl (by kernel_rfl) (by kernel_rfl) (by kernel_rfl) (fun _ _ _ h=>h) (Or.inl ⟨by rfl,?_⟩) (by assumption) ?_
     rotate_left
     ·intro w hSw; (try dsimp only at hSw); go_simp; (try with_reducible rfl)
     try simp only [Act.put,List.setIfInBounds_toArray,List.set_cons_succ,List.set_cons_zero]
     refine take_first (i:=5) (v:=?_) (some 34) rfl rfl (by kernel_rfl) (by kernel_rfl) (by kernel_rfl) (fun _ _ _ h=>h) (Or.inl ⟨by rfl,?_⟩) (by assumption) ?_
     rotate_left
     ·intro w hSw; (try dsimp only at hSw); go_simp; (try with_reducible rfl)
     try simp only [Act.put,List.setIfInBounds_toArray,List.set_cons_succ,List.set_cons_zero]
     refine take_first (i:=6) (v:=?_) (some 35) rfl rfl (by kernel_rfl) (by kernel_rfl) (by kernel_rfl) (fun _ _ _ h=>h) (Or.inl ⟨by rfl,?_⟩) (by assumption) ?_
     rotate_left
     ·intro w hSw; (try dsimp only at hSw); go_simp; (try with_reducible rfl)
     try simp only [Act.put,List.setIfInBounds_toArray,List.set_cons_succ,List.set_cons_zero]
     refine take_first (i:=7) (v:=?_) (some 36) rfl rfl (by kernel_rfl) (by kernel_rfl) (by kernel_rfl) (fun _ _ _ h=>h) (Or.inl ⟨by rfl,?_⟩) (by assumption) ?_
     rotate_left
     ·intro w hSw; (try dsimp only at hSw); go_simp; (try with_reducible rfl)
     try simp only [Act.put,List.setIfInBounds_toArray,List.set_cons_succ,List.set_cons_zero]
     refine take_first (i:=8) (v:=?_) (some 37) rfl rfl (by kernel_rfl) (by kernel_rfl) (by kernel_rfl) (fun _ _ _ h=>h) (Or.inl ⟨by rfl,?_⟩) (by assumption) ?_
     rotate_left
     ·intro w hSw; (try dsimp only at hSw); go_simp; (try with_reducible rfl)
     try simp only [Act.put,List.setIfInBounds_toArray,List.set_cons_succ,List.set_cons_zero]
     refine take_first (i:=9) (v:=?_) (some 38) rfl rfl (by kernel_rfl) (by kernel_rfl) (by kernel_rfl) (fun _ _ _ h=>h) (Or.inl ⟨by rfl,?_⟩) (by assumption) ?_
     rotate_left
     ·intro w hSw; (try dsimp only at hSw); go_simp; (try with_reducible rfl)
     try simp only [Act.put,List.setIfInBounds_toArray,List.set_cons_succ,List.set_cons_zero]
     refine take_first (i:=10) (v:=?_) (some 39) rfl rfl (by kernel_rfl) (by kernel_rfl) (by kernel_rfl) (fun _ _ _ h=>h) (Or.inl ⟨by rfl,?_⟩) (by assumption) ?_
     rotate_left
     ·intro w hSw; (try dsimp only at hSw); go_simp; (try with_reducible rfl)
     try simp only [Act.put,List.setIfInBounds_toArray,List.set_cons_succ,List.set_cons_zero]
     refine take_first (i:=11) (v:=?_) (some 40) rfl rfl (by kernel_rfl) (by kernel_rfl) (by kernel_rfl) (fun _ _ _ h=>h) (Or.inl ⟨by rfl,?_⟩) (by assumption) ?_
     rotate_left
     ·intro w hSw; (try dsimp only at hSw); go_simp; (try with_reducible rfl)
     try simp only [Act.put,List.setIfInBounds_toArray,List.set_cons_succ,List.set_cons_zero]
     refine wpAnyH_ready (rs:=[12]) (by kernel_rfl) (by simp) ?_
     refine AllReadyH.cons rfl (fun K hK=>?_) AllReadyH.nil
     go_simp
     (with_reducible refine (RC6.out).mono ?_)
     rintro e9 w8 ⟨v8,rfl,hs8,hto⟩
     dsimp only
     clear RC6
     obtain ⟨N8,n1,n2,n3,-,-,n6,h8,V8⟩:=h7.out.turn het hto
     have x38:=h8.bx.c 3 rfl
     rw [n1,n2,n3,hs3.out,hA1.out] at x38
     obtain ⟨b1',off1',hA1',z1'⟩:=rd_at (own_slice h8.rp) (by rw [ptrN_len]; omega)
     have zp8:=z1' e.t _ (ptrN_get het)
     rw [n2,hA1.out] at hA1'
     injection hA1' with hA1'
     injection hA1' with hb1 hb2
     subst hb1 hb2
     rw [n6] at zp8
     have bx8:=V8.boxT bx7 T7 env_imm
     refine hK.out _ _ ⟨x38,zp8,bx8.c 0 rfl,bx8.c 1 rfl,bx8.c 2 rfl⟩ (fun hHeld=>?_)
     clear hK K
     refine take_first (i:=13) (v:=.tuple #[v8,.int .i64 0]) (some 28) rfl rfl (by kernel_rfl) (by kernel_rfl) (by kernel_rfl) (fun _ _ _ h=>h) (Or.inl ⟨by rfl,fun _ _=>rfl⟩) (by assumption) ?_
     try simp only [Act.put,List.setIfInBounds_toArray,List.set_cons_succ,List.set_cons_zero]
     refine take_first (i:=14) (v:=v8) (some 42) rfl rfl (by kernel_rfl) (by kernel_rfl) (by kernel_rfl) (fun _ _ _ h=>h) (Or.inl ⟨by rfl,fun _ _=>rfl⟩) (by assumption) ?_
     try simp only [Act.put,List.setIfInBounds_toArray,List.set_cons_succ,List.set_cons_zero]
     refine take_first (i:=15) (v:=.int .i64 0) (some 43) rfl rfl (by kernel_rfl) (by kernel_rfl) (by kernel_rfl) (fun _ _ _ h=>h) (Or.inl ⟨by rfl,fun _ _=>rfl⟩) (by assumption) ?_
     try simp only [Act.put,List.setIfInBounds_toArray,List.set_cons_succ,List.set_cons_zero]
     refine take_first (i:=16) (v:=v8) (some 9) rfl rfl (by kernel_rfl) (by kernel_rfl) (by kernel_rfl) (fun _ _ _ h=>h) (Or.inl ⟨by rfl,fun _ _=>rfl⟩) (by assumption) ?_
     try simp only [Act.put,List.setIfInBounds_toArray,List.set_cons_succ,List.set_cons_zero]
     refine take_first (i:=17) (v:=.int .i64 0) (some 10) rfl rfl (by kernel_rfl) (by kernel_rfl) (by kernel_rfl) (fun _ _ _ h=>h) (Or.inl ⟨by rfl,fun _ _=>rfl⟩) (by assumption) ?_
     try simp only [Act.put,List.setIfInBounds_toArray,List.set_cons_succ,List.set_cons_zero]
     refine wpAnyH_done (by kernel_rfl) ?_ _
     refine NoPanic.normal ?_
     clear hHeld x38 zp8 x37 zp7 z1' n2 n3 n6
     have hw8:=hw7.out.ev V8
     have hs8':SameN N N8:=n1.trans hs3.out
     have PO:=post_any h8 hP.out.t e.t v8 w7.heap.size out hs8 hlk.out hol
     rw [hs8'] at PO
     unfold PostPost at PO
     have q0:=bx8.c 0 rfl
     have hcs:cnt ≤ 3999:=by have:=hcnt.out; omega
     have hpl:(postE P.t.ln e.t out).length ≤ 4000:=by
      have h5:=len_mu (es ++ postE P.t.ln e.t out)
      have h6:=hcnt.out
      rw [List.length_append] at h5
      omega
     replace PO:=Lib.hid PO
     replace hs8':=Lib.hid hs8'
     replace h8:=Lib.hid h8
     replace hw8:=Lib.hid hw8
     clear h7 hw7 bx7 T7 hto V8 n1 bx8 hs8 hs3
     go_wp2_with fail
     (with_reducible refine (PO.out).mono ?_)
     rintro e w9 ⟨A9,c9,ws9,rfl,ho9,hso9,he9,hb9⟩
     clear PO q0
     have h9:=h8.out.below hb9
     have hw9:=hw8.out.below hb9
     have hl9:ws9.length = (postE P.t.ln e.t out).length:=by
      have:=congrArg List.length he9
      simpa [wxB,envB] using this
     have hl99:ws9.length ≤ 4000:=by omega
     have hsz9:=Lib.hid h9.b0.2
     have hown9:=hw9.ow
     have rd9:=own_slice ho9
     clear hl9 hpl h8 hw8
     go_wp2_with (at_builtin; refine wpList_appW0 rfl wxT (.tmp 50) (.tmp 55) rfl Bn rfl hown9 (m:=ws9.length) rfl (wxV_len ws9) rd9 (wxV_one ws9) (by simp only [maxLen]; omega) (by omega) hsz9.out ?_; intro v6 w6 ho6 hb6 hg6; obtain ⟨A6,c6,rfl,-⟩:=ho6.form)
     have h6:=Lib.hid (h9.app' hown9 hg6)
     have hw6:Hid (WvAt w6 Bn A6 c6 (r ++ ws9) (es ++ postE P.t.ln e.t out)):=by
      refine ⟨by rw [List.length_append,wxV_append]; exact ho6,fun x hx=>?_,?_⟩
      ·rcases List.mem_append.1 hx with h7 | h7
       ·exact wx_other hown9 hg6 (hw9.so x h7)
       ·exact wx_other hown9 hg6 (hso9 x h7)
      ·have a:=hw9.eq
       unfold wxB envB at a he9 ⊢
       rw [List.map_append,List.map_append,a,he9]
     have hmu9:Hid (cnt + 1 + mu (es ++ postE P.t.ln e.t out) ≤ 4000):=Lib.hid (by have:=hcnt.out; omega)
     clear ho6 hb6 hg6 rd9 hown9 hsz9 hl99 h9 hw9 hb9 he9 hso9 ho9 hcnt
     go_round
     case rel=>exact ⟨cnt + 1,N8,_,_,A6,c6,r ++ ws9,by rw [List.length_append],by go_num,hs8',h6,hw6,hnx,hmu9⟩
     case measure=>simp [intOf]; omega
  ·have hkk:k = zn:=by omega
   have hf9:RunP B0 Bn w0 N P n T0 (T + (zn:Int)) (.returned (.bool true)) wr:=⟨N1,S1,rfl,hs1.out,h1.out,by rw [← hkk]; exact hr1.out⟩
   have e1:decide ((k:Int) < (zn:Int)) = false:=by simp; omega
   clear h1 hr1 hs1 hkk
   go_wp2_with fail
   go_ret
   exact hf9
end Go.Proofs.YtehimhbgakpenaaGreat
