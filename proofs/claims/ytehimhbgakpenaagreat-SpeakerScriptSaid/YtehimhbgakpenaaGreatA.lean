/- Lemmas. -/
import Derived.WalkKit
import Derived.WalkSpells
import Derived.WalkLawsBesides
import Derived.Lib.Hide
import Derived.Deep.QuietTactic
import Derived.BigQuiet
import Derived.Maps.AppendAt
import Derived.ProofKit
import Derived.OpenShut
import Derived.ShutString
import Derived.ChangeOld
import Derived.Test.YtehimhbgakpenaaGreatRows
set_option linter.all false
set_option maxRecDepth 100000
set_option maxHeartbeats 16000000
namespace Go.Proofs.YtehimhbgakpenaaGreat
open Go.RowKit
abbrev cG:=Option Addr
abbrev cH:=List Value
abbrev cI(w v:World):=Below w.heap.size w v
def cj{n:Nat}:n≤n:=Nat.le_refl n
def cn{w:World}{a b c}:=World.ownsRow_nil w a b c
def cy{b:Nat}{w:World}:Below b w w:=Below.refl b w
def cz{a}{p:a→Bool}{l}:=List.length_filter_le p l
def cC{n:Nat}:n≤n+1:=Nat.le_succ n
def ZT:=@Array.any_eq_true'
def df:=@Array.getElem?_eq_some_iff
def YP:=@Array.getElem?_modify
def sI:=@Array.length_toList
def eS:=@Array.mk.injEq
def Cf:=@Array.replicate_succ
def Ce:=@Array.replicate_zero
def W4:=@Array.setIfInBounds_comm
def ky:=@Go.RowKit.Below.heap_alloc
def gm:=@Go.RowKit.Below.heap_setCell
def sa:=@Go.RowKit.Below.refl
def YO:=@Bool.and_eq_false_iff
def dD:=@Bool.and_eq_true
def Up:=@Bool.and_false
def dH:=@Bool.eq_false_or_eq_true
def ga:=@Bool.eq_iff_iff
def gU:=@Bool.false_and
def GZ:=@Bool.false_eq_true
def nV:=@Bool.false_or
def yt:=@Bool.not_eq_true
def mJ:=@Bool.or_eq_false_iff
def sE:=@Bool.or_eq_true
def xw:=@Bool.or_false
def gi:=@Bool.true_and
def zg:=@Go.DataW.held.injEq
def YN:=@Go.DataW.trod_lt
def mH:=@Go.DataW.trod_struct
def Cd:=@Eq.trans
def I4:=@Int.add_emod
def ZB:=@Int.add_mul
def WZ:=@Int.emod_emod
def de:=@Int.eq_ofNat_of_zero_le
def ZA:=@Int.le_refl
def MO:=@Int.mul_add
def I3:=@Int.mul_emod
def Cc:=@Int.mul_le_mul
def Cb:=@Int.mul_nonneg
def yr:=@Int.natCast_ediv
def QN:=@Int.natCast_pow
def uH:=@Int.tdiv_eq_ediv_of_nonneg
def jG:=@Int.tmod_eq_emod_of_nonneg
def cU:=@Int.toNat_natCast
def dR:=@Int.toNat_of_nonneg
def zf:=@Go.IntKind.wrap_i64
def QY:=@Go.IntKind.wrap_u32
def ze:=@Go.IntKind.wrap_u64
def ma:=@Go.IntKind.wrap_u8
def kV:=@Go.IntWalk.i64_in
def gk:=@Go.Lib.hid
def gw:=@Go.Lib.run_eql_slice_nil
def mG:=@List.Pairwise.filter
def WY:=@List.Pairwise.imp_of_mem
def rj:=@List.all_eq_true
def xu:=@List.any_cons
def ZY:=@List.any_eq_false
def dI:=@List.append_assoc
def gY:=@List.append_nil
def Ez:=@List.append_toArray
def dJ:=@List.cons.injEq
def dM:=@List.cons_append
def MN:=@List.drop_append_of_le_length
def iG:=@List.drop_eq_getElem_cons
def gG:=@List.drop_of_length_le
def Ca:=@List.drop_zero
def dy:=@List.eq_nil_of_length_eq_zero
def Zz:=@List.eraseIdx_set_eq
def Bk:=@List.filterMap_append
def gC:=@List.filter_append
def gN:=@List.filter_congr
def Xh:=@List.filter_cons_of_neg
def Xg:=@List.filter_cons_of_pos
def ZS:=@List.filter_filter
def zc:=@List.filter_map
def GY:=@List.find?_eq_none
def jV:=@List.findIdx?_eq_some_iff_getElem
def Ey:=@List.flatMap_append
def ZX:=@List.flatMap_cons
def I2:=@List.foldl_append
def lL:=@List.foldl_cons
def eP:=@List.getElem?_append_left
def dY:=@List.getElem?_append_right
def ZR:=@List.getElem?_drop
def cM:=@List.getElem?_eq_getElem
def qp:=@List.getElem?_eq_none
def dj:=@List.getElem?_eq_some_iff
def eJ:=@List.getElem?_map
def I1:=@List.getElem?_set
def fU:=@List.getElem?_set_ne
def fX:=@List.getElem?_set_self
def ZQ:=@List.getElem?_take
def eN:=@List.getElem_cons_succ
def eT:=@List.getElem_cons_zero
def ng:=@List.getElem_map
def di:=@List.getElem_mem
def eG:=@List.getElem_of_mem
def yq:=@List.getElem_set
def fG:=@List.getElem_set_self
def I0:=@List.getElem_take
def cX:=@List.length_append
def dG:=@List.length_cons
def fz:=@List.length_drop
def YA:=@List.length_eq_one_iff
def WX:=@List.length_filterMap_le
def dh:=@List.length_map
def YM:=@List.length_mergeSort
def fj:=@List.length_nil
def dw:=@List.length_set
def lZ:=@List.length_singleton
def eM:=@List.length_take
def ez:=@List.map_append
def sH:=@List.map_congr_left
def gh:=@List.map_cons
def ED:=@List.map_drop
def jv:=@List.map_map
def nf:=@List.map_nil
def pQ:=@List.map_set
def WW:=@List.map_take
def yn:=@List.map_toArray
def eZ:=@List.mem_append
def dA:=@List.mem_cons
def fy:=@List.mem_cons_of_mem
def MB:=@List.mem_eraseIdx_iff_getElem?
def dW:=@List.mem_filter
def lv:=@List.mem_filterMap
def Zy:=@List.mem_iff_getElem
def dL:=@List.mem_map
def vK:=@List.mem_of_find?_eq_some
def eu:=@List.mem_of_getElem?
def vJ:=@List.mem_or_eq_of_mem_set
def ec:=@List.mem_range
def ew:=@List.mem_singleton
def Uo:=@List.mergeSort_of_pairwise
def iC:=@List.nil_append
def eF:=@List.not_mem_nil
def oI:=@List.pairwise_cons
def ny:=@List.pairwise_iff_getElem
def ju:=@List.pairwise_lt_range
def gM:=@List.pairwise_map
def IZ:=@List.push_toArray
def jj:=@List.range_succ
def Ex:=@List.replicate_succ
def Zx:=@List.replicate_succ'
def eH:=@List.setIfInBounds_toArray
def B6:=@List.set_append_left
def iJ:=@List.set_append_right
def eW:=@List.set_cons_succ
def eV:=@List.set_cons_zero
def lu:=@List.set_set
def YL:=@List.singleton_append
def fT:=@List.size_toArray
def qo:=@List.take_append_drop
def dE:=@List.take_length
def dn:=@List.take_of_length_le
def cT:=@List.take_succ_eq_append_getElem
def uG:=@List.take_zero
def ZO:=@List.toList_toArray
def MM:=@Go.Maps.size_eq
def iS:=@Nat.add_assoc
def oQ:=@Nat.add_mul
def uF:=@Nat.add_sub_cancel
def Xf:=@Nat.add_sub_cancel_left
def fM:=@Nat.add_zero
def MA:=@Nat.and_two_pow_sub_one_eq_mod
def fF:=@Nat.eq_zero_or_pos
def iR:=@Nat.le_of_lt
def cZ:=@Nat.le_trans
def oH:=@Nat.lt_of_le_of_lt
def eh:=@Nat.lt_of_lt_of_le
def Yz:=@Nat.lt_or_ge
def il:=@Nat.lt_succ_self
def lK:=@Nat.min_eq_left
def mZ:=@Nat.mod_eq_of_lt
def gl:=@Nat.mul_comm
def Zw:=@Nat.mul_le_mul_right
def BZ:=@Nat.mul_one
def Yy:=@Nat.ne_of_gt
def mF:=@Nat.pow_le_pow_right
def Zv:=@Nat.pow_pos
def IY:=@Nat.pow_succ
def Yx:=@Nat.sub_self
def iQ:=@Nat.zero_add
def jw:=@Nat.zero_le
def pP:=@Nat.zero_mul
def ym:=@Option.bind_eq_some_iff
def yl:=@Option.bind_some
def gg:=@Option.getD_some
def dC:=@Option.isSome_iff_exists
def GX:=@Option.isSome_none
def uE:=@Option.isSome_some
def fW:=@Option.map_eq_some_iff
def fp:=@Option.map_some
def dB:=@Option.some.injEq
def iP:=@Prod.mk.injEq
def sG:=@Go.Region.noSelect_spec
def kA:=@Go.Result.andThen_ok
def BF:=@Go.Sem.run_bind
def uW:=@Go.Sem.run_pure
def ZW:=@UInt8.le_antisymm
def QM:=@UInt8.lt_irrefl
def IX:=@UInt8.not_lt
def QL:=@UInt8.toNat_inj
def jF:=@UInt8.toNat_lt
def jE:=@UInt8.toNat_ofNat'
def eE:=@Go.Value.agg.injEq
def jO:=@Go.Value.bool.injEq
def jr:=@Go.Value.int.injEq
def dp:=@Go.Value.slice.injEq
def dm:=@Go.World.block_lt_of_cell?
def cY:=@Go.World.cell?_of_block
def fC:=@Go.World.cell?_setCell_same
def YK:=@Go.World.cell?_setCells_out
def eC:=@Go.World.frozen?_of_block
def mB:=@Go.World.frozen?_setCell
def qn:=@Go.World.frozen?_setCells
def qm:=@Go.World.ownsRow_lit
def fD:=@Go.World.size_alloc
def Ki:=@Go.World.size_setCell
def fv:=@and_true
def kL:=@beq_eq_false_iff_ne
def ji:=@beq_iff_eq
def rh:=@beq_self_eq_true
def ZP:=@bne_iff_ne
def fO:=@Go.bodyPost_end
def dc:=@Go.bodyPost_ret
def iY:=@Go.callsIn_wide
def cW:=@Go.cell_later
def ZV:=@Go.cell_of_row
def dU:=@congrArg
def eI:=@decide_eq_false
def ja:=@decide_eq_false_iff_not
def eo:=@decide_eq_true
def fa:=@decide_eq_true_eq
def ie:=@decide_eq_true_iff
def ib:=@Go.heap_alloc_new
def lV:=@Go.heap_setCell_other
def Un:=@if_false
def cN:=@if_neg
def cR:=@if_pos
def gy:=@if_true
def nu:=@Go.info_parts
def Zu:=@Go.mem_ready
def lr:=@of_decide_eq_false
def fS:=@of_decide_eq_true
def ik:=@or_false
def cV:=@Go.RowKit.ownsRow_setCell_below
def Bz:=@Go.ready_mono
def ZN:=@Go.results_none
def UZ:=@Go.run_equalIn_agg
def uv:=@Go.run_equalIn_int
def Xe:=@Go.run_neq_struct
def ql:=@Go.run_underlying
def UY:=@Go.trodAll_cons_mk
def fE:=@true_and
def ZU:=@Go.wpList_step
def fI:=@Go.wpQuiet_nil
instance:Coe Int Value:=⟨.int .i64⟩
abbrev Cv(W:World)(g j:Nat)(v:Value):Prop:=W.cell? ⟨g,j,none⟩=some v
abbrev Fz(W:World)(g j:Nat):Prop:=W.frozen? ⟨g,j,none⟩=false
instance:Coe World Nat:=⟨fun w=>w.heap.size⟩
instance:Coe Bool Value:=⟨.bool⟩
instance:Coe Nat Value:=⟨fun n=>.int .i64 n⟩
def ex{α:Sort _}(a:α):∃b,a=b:=⟨a,rfl⟩
abbrev sn:Value:=.slice none 0 0
abbrev i0:Value:=.int .i64 0
abbrev pt(g:Nat):Value:=.pointer (some ⟨g,0,none⟩)
def φ{p:Prop}(h:p):RowKit.Hid p:=h
def vm{P:Program}{f:FuncId}{args:Array Value}{w:World}{n:Nat}{v:Value}
  (h:Calls P f args (w.drewN n) fun e w'=>e= .returned v∧w.drewN n=w'):Calls P f args (w.drewN n) fun e a=>e= .returned v∧ ∃m,a=w.drewN m :=
 h.mono fun _ _ ⟨he,hm⟩=>⟨he,n,hm.symm⟩
def below_drewN{B:Nat}{a w:World}(h:Below B a w)(n:Nat):Below B a (w.drewN n):=⟨h.os,h.tape,h.output,h.size,h.block⟩
def fg{a b:Bool}(h:a=b):Ending.returned (.bool a)=Ending.returned (.bool b):=by rw[h]
def tR{k:IntKind}{a b:Int}(h:a=b):Ending.returned (.int k a)=Ending.returned (.int k b):=by rw[h]
def fL{w wx:World}{a:Addr}{v:Value}(hb:cI w wx)(h:w.cell? a=some v)(hf:w.frozen? a=false):wx.frozen? a=false :=
 (hb.frozen (dm _ _ h)).trans hf
def iZ(b:UInt8):Value:=.int .u8 (b.toNat:Int)
def Rd(w:World)(A:cG)(xs:cH):Prop :=
 0<xs.length→ ∃ad,A=some ad∧ ∀j u,xs[j]?=some u→w.cell? (ad.add j)=some u
def fu(a:Addr)(n:Nat):(a.add n).block=a.block:=by unfold Addr.add;split<;>rfl
def xh(a:Addr)(i j:Nat):(a.add i).add j=a.add (i+j):=by
 unfold Addr.add
 by_cases hi:i=0<;>by_cases hj:j=0<;>simp[hi,hj,iS]
section
variable {w w':World} {A:cG} {xs:cH}
def Rd.nil(w:World)(A:cG):Rd w A []:=fun h=>absurd h (by simp)
def Rd.tW(h:Rd w none xs):xs.length=0:=by
 rcases fF xs.length with h0|h0
 ·exact h0
 ·obtain⟨_,e,_⟩:=h h0;cases e
def Rd.get(h:Rd w A xs){k:Nat}(hk:k<xs.length):∃ad,A=some ad∧w.cell? (ad.add k)=some xs[k]:=by
 obtain⟨ad,e,hc⟩:=h (by omega);exact⟨ad,e,hc k _ (cM hk)⟩
def Rd.block(h:Rd w A xs)(hn:0<xs.length):∃ad,A=some ad∧ad.block<w:=by
 obtain⟨ad,e,hc⟩:=h.get hn;refine⟨ad,e,?_⟩
 have:=dm w _ hc
 rwa[fu]at this
def Rd.uB(h:Rd w A xs)(hk:∀p:Addr,p.block<w→w'.cell? p=w.cell? p):Rd w' A xs:=by
 intro hn;obtain⟨ad,e,hb⟩:=h.block hn;obtain⟨a,e',hc⟩:=h hn;rw[e]at e';injection e' with e'
 subst e';exact⟨ad,e,fun j u hu=>(hk _ (by rw[fu];exact hb)).trans (hc j u hu)⟩
def Rd.below(h:Rd w A xs)(hb:cI w w'):Rd w' A xs:=h.uB fun _ hp=>hb.cell hp
def Rd.drew(h:Rd w A xs):Rd w.drew A xs:=h
def Rd.drop(h:Rd w A xs)(k:Nat):Rd w (A.map (·.add k)) (xs.drop k):=by
 intro hn;rw[fz]at hn;obtain⟨ad,e,hc⟩:=h (by omega);refine⟨ad.add k,by rw[e];rfl,fun j u hu=>?_⟩
 rw[xh];rw[ZR]at hu;exact hc _ _ hu
def Rd.take(h:Rd w A xs)(k:Nat):Rd w A (xs.take k):=by
 intro hn;rw[eM]at hn;obtain⟨ad,e,hc⟩:=h (by omega);refine⟨ad,e,fun j u hu=>?_⟩
 rw[ZQ]at hu;split at hu
 ·exact hc _ _ hu
 ·cases hu
end
abbrev Bs(w:World)(A:cG)(bs:List UInt8):Prop:=Rd w A (bs.map iZ)
def Bs.get{w:World}{A:cG}{bs:List UInt8}(h:Bs w A bs){k:Nat}(hk:k<bs.length) :
  ∃ad,A=some ad∧w.cell? (ad.add k)=some (.int .u8 (bs[k].toNat:Int)):=by
 obtain⟨ad,e,hc⟩:=Rd.get h (k:=k) (by simpa using hk);exact⟨ad,e,by simpa[iZ]using hc⟩
def cQ(w:World)(o:Obj):cI w (w.alloc o):=cy.alloc cj o
def fq(w:World)(g:Nat)(cs:cH):Prop:=∀i u,cs[i]?=some u→w.cell? ⟨g,i,none⟩=some u∧w.frozen? ⟨g,i,none⟩=false
def fq.new(w:World)(cs:Array Value)(t:TypeId):fq (w.alloc (.cells cs t)) w cs.toList:=by
 intro i u hu;refine⟨?_,by simp⟩
 rw[ZV _ _ _ _ _ _ (ib w _)];simpa using hu
def fq.iE(w:World)(cs:Array Value)(t:TypeId)(g:Nat)(l:cH)(hg:w.heap.size=g)(hl:cs.toList=l):fq (w.alloc (.cells cs t)) g l:=by
 subst hg hl;exact fq.new w cs t
def cell_far{w:World}{p q:Addr}(u:Value)(h:p≠q):(w.setCell p u).cell? q=w.cell? q:=World.cell?_setCell_other w p q u h
section
variable {w w':World} {g:Nat} {cs:cH}
def fq.c(h:fq w g cs)(i:Nat){u:Value}(hu:cs[i]?=some u):w.cell? ⟨g,i,none⟩=some u:=(h i u hu).1
def fq.f(h:fq w g cs)(i:Nat){u:Value}(hu:cs[i]?=some u):w.frozen? ⟨g,i,none⟩=false:=(h i u hu).2
def fq.later(h:fq w g cs)(hb:cI w w'):fq w' g cs:=fun i u hu=>⟨cW hb (h i u hu).1,fL hb (h i u hu).1 (h i u hu).2⟩
def fq.alloc(h:fq w g cs)(o:Obj):fq (w.alloc o) g cs:=h.later (cy.alloc cj o)
def fq.drew(h:fq w g cs):fq w.drew g cs:=h
def fq.lt(h:fq w g cs)(hn:0<cs.length):g<w:=dm _ _ (h 0 _ (cM hn)).1
def fq.iX(h:fq w g cs){p:Addr}(u:Value)(hk:p.block≠g):fq (w.setCell p u) g cs :=
 fun i v hv=>⟨(cell_far u (fun e=>hk (by rw[e]))).trans (h i v hv).1,by simp[(h i v hv).2]⟩
def fq.set(h:fq w g cs)(i:Nat)(u:Value)(hi:i<cs.length):fq (w.setCell ⟨g,i,none⟩ u) g (cs.set i u):=by
 intro j v hv
 by_cases hij:i=j
 ·subst hij;rw[fX hi]at hv;injection hv with hv
  subst hv;have h0:=h i _ (cM hi);exact⟨fC w _ u h0.1,by simp[h0.2]⟩
 ·rw[fU hij]at hv;exact⟨(cell_far u (by intro e;injection e with _ e2;exact hij e2)).trans (h j v hv).1,by simp[(h j v hv).2]⟩
end
structure iF (P:Program) (t e:TypeId) (z:Value) (size bytes:Nat):Prop where
 under:P.underlying t=some (.slice e)
 info:(P.info? e).map (fun i=>(i.zero,i.size,i.bytes))=some (some z,size,bytes)
 zsize:z.cells.size=size
 pos:0<size
def dx{w:World}{base a:Nat}{e:TypeId}{size:Nat}{v:Value}{n:Nat}{xs:cH}(h:w.ownsRow a e size v n xs)(hb:base≤a):w.ownsRow base e size v n xs:=by
 refine⟨h.1,?_⟩
 rcases h.2 with h2|⟨g,cap,cur,hv,hg,r⟩
 ·exact .inl h2
 ·exact .inr ⟨g,cap,cur,hv,by omega,r⟩
def dN{w:World}{base:Nat}{e:TypeId}{size:Nat}{v:Value}{n:Nat}{xs:cH}(h:w.ownsRow base e size v n xs) :
  ∃A c,v= .slice A n c∧Rd w A xs∧n≤c∧c≤maxLen:=by
 rcases h.2 with ⟨rfl,rfl⟩|⟨g,cap,cur,rfl,hg,hh,hn,hm,_⟩
 ·have hx:xs= []:=dy (by simpa using h.1);subst hx;exact⟨none,0,rfl,Rd.nil _ _,cj,jw _⟩
 ·exact⟨_,cap,rfl,fun _=>⟨_,rfl,h.cells (g:=g) rfl⟩,hn,hm⟩
def pk{w:World}{base:Nat}{e:TypeId}{size:Nat}{v:Value}{n:Nat}{xs:cH}(h:w.ownsRow base e size v n xs)(hn:0<n) :
  ∃g cap,v= .slice (some ⟨g,0,none⟩) n cap∧base≤g∧g<w∧w.ownsRow base e size (.slice (some ⟨g,0,none⟩) n cap) n xs:=by
 have h0:=h;rcases h.2 with ⟨rfl,rfl⟩|⟨g,cap,cur,rfl,hg,hh,_⟩
 ·omega
 ·exact⟨g,cap,rfl,hg,(h0.lt g rfl).2,h0⟩
def nS{w:World}{b1 b2:Nat}{e1 e2:TypeId}{s1 s2:Nat}{v1 v2:Value}{n1 n2:Nat}{x1 x2:cH}(h1:w.ownsRow b1 e1 s1 v1 n1 x1)(h2:w.ownsRow b2 e2 s2 v2 n2 x2)(b:e1≠e2) :
  v1.ownBlock=none∨v1.ownBlock≠v2.ownBlock:=by
 rcases h1.2 with ⟨rfl,_⟩|⟨g,cap,cur,rfl,_,hh,_⟩
 ·exact .inl rfl
 ·right;rcases h2.2 with ⟨rfl,_⟩|⟨g2,d,c,rfl,_,a,_⟩
  ·simp[Value.ownBlock]
  ·intro e;simp only[Value.ownBlock,dB]at e;subst e;rw[hh]at a;injection a with a
   injection a with _ h3
   exact b h3
def dg{w w':World}{base:Nat}{e:TypeId}{size:Nat}{v:Value}{n:Nat}{xs:cH}(h:w.ownsRow base e size v n xs)(hb:cI w w'):w'.ownsRow base e size v n xs:=by
 refine⟨h.1,?_⟩
 rcases h.2 with h2|⟨g,cap,cur,rfl,hg,hh,r⟩
 ·exact .inl h2
 ·exact .inr ⟨g,cap,cur,rfl,hg,(hb.block g (h.lt g rfl).2).trans hh,r⟩
section
variable {P:Program} {t e:TypeId} {z:Value} {size bytes:Nat}
def yQ(w:World)(hE:iF P t e z size bytes)(ty:TypeId)(base:Nat){v:Value}{n:Nat}{xs:cH}(a:w.ownsRow base e size v n xs)(c:Nat) :
  (Builtin.append_ #[t,t] ty #[v,.slice none 0 c]).run P w= .ok v w:=by
 obtain⟨i,hi,_,_,_⟩:=nu hE.info;rcases a.2 with ⟨rfl,rfl⟩|⟨g,cap,cur,rfl,_,_,b,_⟩
 ·simp[Builtin.append_,ql hE.under,sizeOf,typeInfo,hi,Builtin.lenOf,Builtin.firstCells]
 ·simp[Builtin.append_,ql hE.under,sizeOf,typeInfo,hi,Builtin.lenOf,Builtin.firstCells,b,storeCells]
def Dz(w:World)(hE:iF P t e z size bytes)(ty:TypeId)(base:Nat){v:Value}{n:Nat}{xs:cH}(a:w.ownsRow base e size v n xs)
  {A:cG} {m c:Nat} {news:cH} (hl:news.length=m*size) (hr:Rd w A news) (h1:∀u∈news,u.oneCell'=true)
  (p:n+m≤maxLen) (d:(n+m)*bytes≤140737488355328) (f:base≤w) :
  ∃v' w',(Builtin.append_ #[t,t] ty #[v,.slice A m c]).run P w= .ok v' w'∧w'.ownsRow base e size v' (n+m) (xs++news)∧w.grownBy w' v.ownBlock∧
    (v'.ownBlock=v.ownBlock∨v'.ownBlock=some w.heap.size):=by
 obtain⟨i,hi,o,l,k⟩:=nu hE.info;have hm:A=none→m=0:=by
  rintro rfl;rcases fF m with h0|h0
  ·exact h0
  ·obtain⟨ad,h,_⟩:=hr (by rw[hl];exact Nat.mul_pos h0 hE.pos);cases h
 rcases A with _|ad
 ·obtain rfl:=hm rfl;have hn:news= []:=dy (by simpa using hl);subst hn;exact⟨v,w,yQ w hE ty base a c,by simpa using a,⟨rfl,rfl,rfl,cj,fun _ _ _=>rfl⟩,.inl rfl⟩
 ·have b:∀j u,news[j]?=some u→w.cell? (ad.add j)=some u:=by
   intro j u hu;obtain⟨q,h,hc⟩:=hr (by have:=(dj.1 hu).1;omega);injection h with h
   subst h;exact hc j u hu
  obtain⟨v',w',g,h2,h3,_,h5⟩:=run_append_own_at (P:=P) w base t ty e i z size bytes hE.under hi o l k hE.zsize hE.pos v n xs a ad m c news hl b h1 p d f;exact⟨v',w',g,h2,h3,h5⟩
def kP{a w w':World}{v:Value}{B base:Nat}{e:TypeId}{size n:Nat}{xs:cH}(h:Below B a w)(b:w.ownsRow base e size v n xs)(hg:w.grownBy w' v.ownBlock)(hB:B≤base)(hs:B≤w):Below B a w' :=
 h.grown hg hs fun k hk=>cZ hB (b.lt k hk).1
def dK{w:World}{ops:Array Oper}{rest:List Oper}{o:Oper}{a:Act}{Q:Exit→Act→World→Prop}(hw:Region.wanted o (yielded ops a.tmps)=true)(hE:iF P t e z size bytes)(s x:Operand)
  (ho:o.op= .call { callee:=.builtin .append,args:=#[s,x],argTypes:=#[t,t] }) (base:Nat) {v:Value} {n:Nat} {xs:cH} (hs:a.eval s=v) (f:w.ownsRow base e size v n xs)
  {A:cG} {m c:Nat} {news:cH} (hx:a.eval x= .slice A m c) (hl:news.length=m*size) (hr:Rd w A news) (h1:∀u∈news,u.oneCell'=true)
  (i:n+m≤maxLen) (d:(n+m)*bytes≤140737488355328) (b:base≤w) (N:Nat) (L:cH) (hN:n+m=N) (hL:xs++news=L)
  (h:∀v' w',w'.ownsRow base e size v' N L→Below base w w'→w.grownBy w' v.ownBlock→(v'.ownBlock=v.ownBlock∨v'.ownBlock=some w.heap.size)→wpList P ops Q rest (a.put o.dst v') w') :
  wpList P ops Q (o :: rest) a w:=by
 refine ZU fun _ hK=>?_
 rw[cR hw];subst hN hL;obtain⟨v',w',g,h2,h3,h4⟩:=Dz (P:=P) w hE o.type base f (c:=c) hl hr h1 i d b;unfold Oper.wp execOp;simp only[ho,resolve,invoke,builtin,BF,Sem.run_pure,Result.andThen_ok,yn,gh,nf,hs,hx,g];exact hK _ _ (h v' w' h2 (kP cy f h3 cj b) h3 h4)
def fq.kept{w w':World}{g:Nat}{cs:cH}{row:Option Nat}(h:fq w g cs)(hg:w.grownBy w' row)(b:some g≠row)(hp:0<cs.length):fq w' g cs:=by
 have hb:=hg.block g (h.lt hp) b;intro i u hu;have:=h i u hu;exact⟨(cY (a:=⟨g,i,none⟩) hb).trans this.1,(eC (a:=⟨g,i,none⟩) hb).trans this.2⟩
def dk(w:World)(g j:Nat)(u:Value):w.grownBy (w.setCell ⟨g,j,none⟩ u) (some g) :=
 ⟨rfl,rfl,rfl,by simp,fun k _ hk=>lV w ⟨g,j,none⟩ k u (fun e=>hk (by simp[e]))⟩
end
def lQ(w:World)(e:TypeId)(size:Nat):(w.alloc (.cells #[] e)).ownsRow w e size (.slice (some ⟨w,0,none⟩) 0 0) 0 []:=World.ownsRow_made w #[] 0 cj (by simp) (by simp)
def kQ(w:World)(o:Obj):cI w (w.alloc o):=cy.alloc cj o
def ia(z:Value)(n:Nat):Array Value:=(List.replicate n z).toArray
def Di(z:Value)(n:Nat):madeCells #[z] n=ia z n:=by
 apply Array.toList_inj.1;rw[toList_madeCells_one];simp[ia]
def oM{P:Program}{t e:TypeId}{z:Value}{bytes:Nat}(hE:iF P t e z 1 bytes)(hz:z.cells= #[z])(kl kc:IntKind)(n c:Nat)(f:n≤c)(hb:bytes*c≤281474976710656)(hc:c≤9223372036854775807)(w:World) :
  (Instr.makeSlice t (.int kl (n:Int)) (.int kc (c:Int))).run P w= .ok (.slice (some ⟨w,0,none⟩) n c) (w.alloc (.cells (ia z c) e)):=by
 obtain⟨i,hi,d,b,a⟩:=nu hE.info;have h:(i.bytes:Int)*(c:Int)≤281474976710656:=by
  have h:((bytes*c:Nat):Int)≤281474976710656:=by omega
  rw[a];rwa[Int.natCast_mul]at h
 have:=run_make (P:=P) w t e i z hE.under hi d kl kc n c (by omega) (by omega) h (by omega);rw[hz,b,BZ,cU,cU,Di]at this;exact this
def OE(w:World)(z:Value)(n:Nat)(e:TypeId)(hn:n≤maxLen):(w.alloc (.cells (ia z n) e)).ownsRow w e 1 (.slice (some ⟨w,0,none⟩) n n) n (List.replicate n z):=by
 have:=qm (base:=w.heap.size) (e:=e) (size:=1) w (ia z n) n cj hn (by simp[ia]);simpa[ia]using this
def SI{w:World}{base g n c:Nat}{e:TypeId}{xs:cH}(h:w.ownsRow base e 1 (.slice (some ⟨g,0,none⟩) n c) n xs){k:Nat}(hk:k<xs.length):w.cell? ⟨g,k,none⟩=some xs[k]:=by
 have hl:=h.1;rw[h.cellAt k (by omega)];simp
def sV{w:World}{base g n c:Nat}{e:TypeId}{bs:List UInt8}(h:w.ownsRow base e 1 (.slice (some ⟨g,0,none⟩) n c) n (bs.map iZ)){k:Nat}(hk:k<bs.length) :
  w.cell? ⟨g,k,none⟩=some (.int .u8 (bs[k].toNat:Int)):=by
 rw[SI h (by simpa using hk)];simp[iZ]
def qt{x:Int}(h0:0≤x)(h1:x<256):iZ (UInt8.ofNat x.toNat)= .int .u8 x:=by
 have h:x.toNat<256:=by omega
 simp only[iZ,jE];rw[show x.toNat % 2 ^8=x.toNat from mZ (by omega),dR h0]
def Rd.lit(w:World)(cs:Array Value)(t:TypeId):Rd (w.alloc (.cells cs t)) (some ⟨w,0,none⟩) cs.toList:=by
 intro _;refine⟨_,rfl,fun j u hu=>?_⟩
 have a:(⟨w,0,none⟩:Addr).add j=⟨w,j,none⟩:=by unfold Addr.add;split<;>simp_all
 rw[a,ZV _ _ _ _ _ _ (ib w _)];simpa using hu
def lI{P:Program}(w:World){src dst e:TypeId}(hs:P.underlying src=some (.slice e))(he:P.underlying e=some (.int .u8))(hd:P.underlying dst=some .string)
  {A:cG} {n cap:Nat} {bs:List UInt8} (hb:Bs w A bs) (hn:bs.length=n):(convert src dst (.slice A n cap)).run P w= .ok (.string ⟨bs.toArray⟩) w:=by
 subst hn;rcases bs with _|⟨b,r⟩
 ·rw[run_convert_bytes_string w src dst e _ _ cap hs he hd];cases A<;>simp[Conv.bytesToString,loadCells]
  all_goals rfl
 ·obtain⟨ad,rfl,_⟩:=hb.get (k:=0) (by simp);refine run_convert_bytes_back w src dst e ad cap (b :: r) hs he hd fun j hj=>?_
  obtain⟨a,h',hc⟩:=Bs.get hb hj;injection h' with h'
  subst h';exact hc
def ni(bs:List UInt8):∀u∈bs.map iZ,u.oneCell'=true:=by
 intro u hu;obtain⟨b,_,rfl⟩:=dL.1 hu;rfl
structure St (W w:World) (bs:List (Nat× cH)) (rs:List (cG× cH)):Prop where
 b:cI W w
 bx:∀(i:Nat) (x:Nat× cH),bs[i]?=some x→fq w x.1 x.2
 rd:∀(i:Nat) (x:cG× cH),rs[i]?=some x→Rd W x.1 x.2
section
variable {W w w':World} {bs:List (Nat × cH)} {rs:List (cG × cH)}
def St.start(W:World):St W W [] []:=⟨cy,by simp,by simp⟩
def St.box(S:St W w bs rs)(i:Nat){g:Nat}{cs:cH}(hi:bs[i]?=some (g,cs)):fq w g cs:=S.bx i _ hi
def St.r(S:St W w bs rs)(i:Nat){A:cG}{xs:cH}(hi:rs[i]?=some (A,xs)):Rd w A xs:=(S.rd i _ hi).below S.b
def St.c(S:St W w bs rs)(i j:Nat){g:Nat}{cs:cH}{u:Value}(hi:bs[i]?=some (g,cs))(hj:cs[j]?=some u):w.cell? ⟨g,j,none⟩=some u:=(S.box i hi).c j hj
def St.f(S:St W w bs rs)(i j:Nat){g:Nat}{cs:cH}{u:Value}(hi:bs[i]?=some (g,cs))(hj:cs[j]?=some u):w.frozen? ⟨g,j,none⟩=false:=(S.box i hi).f j hj
def St.call(S:St W w bs rs)(hb:cI w w'):St W w' bs rs :=
 ⟨S.b.trans (hb.mono S.b.size),fun i x hx=>(S.bx i x hx).later hb,S.rd⟩
def St.alloc(S:St W w bs rs)(o:Obj):St W (w.alloc o) bs rs:=S.call (cQ w o)
def St.new(S:St W w bs rs)(cs:Array Value)(t:TypeId):St W (w.alloc (.cells cs t)) ((w,cs.toList) :: bs) rs:=by
 have S1:=S.alloc (.cells cs t);refine⟨S1.b,fun i x hx=>?_,S1.rd⟩
 cases i with
 |zero=>simp at hx;subst hx;exact fq.new w cs t
 |succ i=>exact S1.bx i x (by simpa using hx)
def St.iE(S:St W w bs rs)(cs:Array Value)(t:TypeId)(g:Nat)(l:cH)(hg:w.heap.size=g)(hl:cs.toList=l):St W (w.alloc (.cells cs t)) ((g,l) :: bs) rs:=by
 subst hg hl;exact S.new cs t
def St.set(S:St W w bs rs)(i j:Nat)(u:Value){g:Nat}{cs:cH}(hi:bs[i]?=some (g,cs))(hj:j<cs.length)(hg:W≤g)
  (hd:∀x∈bs.eraseIdx i,x.1≠g) (a:List (Nat× cH)) (c:bs.set i (g,cs.set j u)=a):St W (w.setCell ⟨g,j,none⟩ u) a rs:=by
 subst c;refine⟨S.b.setCell (p:=⟨g,j,none⟩) hg u,fun k x hx=>?_,S.rd⟩
 by_cases hk:i=k
 ·subst hk;rw[fX (by have:=(dj.1 hi).1;exact this)]at hx;injection hx with hx
  subst hx;exact(S.bx i _ hi).set j u hj
 ·rw[fU hk]at hx;exact(S.bx k x hx).iX u (fun e=>hd x (MB.2 ⟨k,fun e'=>hk e'.symm,hx⟩) e.symm)
def St.YX(S:St W w bs rs)(i:Nat)(a b:Value){g:Nat}{a0 b0:Value}(hi:bs[i]?=some (g,[a0,b0]))(hg:W≤g)
  (hd:∀x∈bs.eraseIdx i,x.1≠g) (c:List (Nat× cH)) (d:bs.set i (g,[a,b])=c):St W ((w.setCell ⟨g,0,none⟩ a).setCell ⟨g,1,none⟩ b) c rs:=by
 have hl:i<bs.length:=(dj.1 hi).1;refine(S.set i 0 a hi (by simp) hg hd _ rfl).set i 1 b (g:=g) (cs:=[a,b0]) (by rw[fX hl];rfl) (by simp) hg ?_ c (by rw[←d,lu];rfl)
 rwa[Zz]
def Rd.at{w:World}{g:Nat}{xs:cH}(h:Rd w (some ⟨g,0,none⟩) xs)(j:Nat){u:Value}(hj:xs[j]?=some u):w.cell? ⟨g,j,none⟩=some u:=by
 obtain⟨ad,e,hc⟩:=h (by have:=(dj.1 hj).1;omega);injection e with e
 subst e;have a:(⟨g,0,none⟩:Addr).add j=⟨g,j,none⟩:=by unfold Addr.add;split<;>simp_all
 have:=hc j u hj
 rwa[a]at this
def St.rc(S:St W w bs rs)(i j:Nat){g:Nat}{xs:cH}{u:Value}(hi:rs[i]?=some (some ⟨g,0,none⟩,xs))(hj:xs[j]?=some u):w.cell? ⟨g,j,none⟩=some u:=(S.r i hi).at j hj
def St.ZF(S:St W w bs rs)(i j:Nat){g:Nat}{xs:cH}{u:Value}(hi:rs[i]?=some (some ⟨g,0,none⟩,xs))(hj:xs[j]?=some u):W.cell? ⟨g,j,none⟩=some u:=(S.rd i _ hi).at j hj
def St.drew(S:St W w bs rs):St W w.drew bs rs:=⟨S.b.drew,S.bx,S.rd⟩
def St.drewN(S:St W w bs rs)(n:Nat):St W (w.drewN n) bs rs:=⟨below_drewN S.b n,S.bx,S.rd⟩
def St.read(S:St W w bs rs){A:cG}{xs:cH}(h:Rd W A xs):St W w bs ((A,xs) :: rs) :=
 ⟨S.b,S.bx,fun i x hx=>by
  cases i with
  |zero=>simp at hx;subst hx;exact h
  | succ i=>exact S.rd i x (by simpa using hx)⟩
def St.dX(S:St W w bs rs)(a:List (Nat× cH))(h:∀x∈a,x∈bs):St W w a rs :=
 ⟨S.b,fun i x hx=>by
  obtain⟨j,hj,c⟩:=eG (h x (eu hx));exact S.bx j x (by rw [cM hj,c]),S.rd⟩
end
def fq.my{w w':World}{g B:Nat}{cs:cH}(h:fq w g cs)(hb:Below B w w')(hg:g<B):fq w' g cs:=fun i u hu=>by
 have:=h i u hu;have e:=hb.block g hg;exact⟨(cY (a:=⟨g,i,none⟩) e).trans this.1,(eC (a:=⟨g,i,none⟩) e).trans this.2⟩
def St.Yf{W w w':World}{bs:List (Nat× cH)}{rs:List (cG× cH)}(S:St W w bs rs){B:Nat}(hb:Below B w w')(hB:W≤B)(h:∀x∈bs,x.1<B):St W w' bs rs :=
 ⟨S.b.trans (hb.mono hB),fun i x hx=>(S.bx i x hx).my hb (h x (eu hx)),S.rd⟩
section
variable {W w:World} {g:Nat} {a b c d e f h i j k:Value} {l:cH} {bs:List (Nat × cH)} {rs:List (cG × cH)}
def fq.b2(S:fq w g (a :: b :: l)):w.cell? ⟨g,0,none⟩=some a∧w.cell? ⟨g,1,none⟩=some b:=⟨S.c 0 rfl,S.c 1 rfl⟩
def fq.b3(S:fq w g (a :: b :: c :: l)):w.cell? ⟨g,0,none⟩=some a∧w.cell? ⟨g,1,none⟩=some b∧w.cell? ⟨g,2,none⟩=some c:=⟨S.c 0 rfl,S.c 1 rfl,S.c 2 rfl⟩
def fq.b4(S:fq w g (a :: b :: c :: d :: l)):w.cell? ⟨g,0,none⟩=some a∧w.cell? ⟨g,1,none⟩=some b∧w.cell? ⟨g,2,none⟩=some c∧w.cell? ⟨g,3,none⟩=some d:=⟨S.c 0 rfl,S.c 1 rfl,S.c 2 rfl,S.c 3 rfl⟩
def fq.b6(S:fq w g (a :: b :: c :: d :: e :: f :: l)):w.cell? ⟨g,0,none⟩=some a∧w.cell? ⟨g,1,none⟩=some b∧w.cell? ⟨g,2,none⟩=some c∧w.cell? ⟨g,3,none⟩=some d∧w.cell? ⟨g,4,none⟩=some e∧w.cell? ⟨g,5,none⟩=some f:=⟨S.c 0 rfl,S.c 1 rfl,S.c 2 rfl,S.c 3 rfl,S.c 4 rfl,S.c 5 rfl⟩
def fq.iM(S:fq w g (a :: b :: c :: d :: e :: f :: h :: i :: j :: k :: l)):w.cell? ⟨g,0,none⟩=some a∧w.cell? ⟨g,1,none⟩=some b∧w.cell? ⟨g,2,none⟩=some c∧w.cell? ⟨g,3,none⟩=some d∧w.cell? ⟨g,4,none⟩=some e∧w.cell? ⟨g,5,none⟩=some f∧w.cell? ⟨g,6,none⟩=some h∧w.cell? ⟨g,7,none⟩=some i∧w.cell? ⟨g,8,none⟩=some j∧w.cell? ⟨g,9,none⟩=some k:=⟨S.c 0 rfl,S.c 1 rfl,S.c 2 rfl,S.c 3 rfl,S.c 4 rfl,S.c 5 rfl,S.c 6 rfl,S.c 7 rfl,S.c 8 rfl,S.c 9 rfl⟩
def fq.f3(S:fq w g (a :: b :: c :: l)):w.frozen? ⟨g,0,none⟩=false∧w.frozen? ⟨g,1,none⟩=false∧w.frozen? ⟨g,2,none⟩=false:=⟨S.f 0 rfl,S.f 1 rfl,S.f 2 rfl⟩
def fq.f4(S:fq w g (a :: b :: c :: d :: l)):w.frozen? ⟨g,0,none⟩=false∧w.frozen? ⟨g,1,none⟩=false∧w.frozen? ⟨g,2,none⟩=false∧w.frozen? ⟨g,3,none⟩=false:=⟨S.f 0 rfl,S.f 1 rfl,S.f 2 rfl,S.f 3 rfl⟩
def fq.f6(S:fq w g (a :: b :: c :: d :: e :: f :: l)):w.frozen? ⟨g,0,none⟩=false∧w.frozen? ⟨g,1,none⟩=false∧w.frozen? ⟨g,2,none⟩=false∧w.frozen? ⟨g,3,none⟩=false∧w.frozen? ⟨g,4,none⟩=false∧w.frozen? ⟨g,5,none⟩=false:=⟨S.f 0 rfl,S.f 1 rfl,S.f 2 rfl,S.f 3 rfl,S.f 4 rfl,S.f 5 rfl⟩
def fq.f10(S:fq w g (a :: b :: c :: d :: e :: f :: h :: i :: j :: k :: l)):w.frozen? ⟨g,0,none⟩=false∧w.frozen? ⟨g,1,none⟩=false∧w.frozen? ⟨g,2,none⟩=false∧w.frozen? ⟨g,3,none⟩=false∧w.frozen? ⟨g,4,none⟩=false∧w.frozen? ⟨g,5,none⟩=false∧w.frozen? ⟨g,6,none⟩=false∧w.frozen? ⟨g,7,none⟩=false∧w.frozen? ⟨g,8,none⟩=false∧w.frozen? ⟨g,9,none⟩=false:=⟨S.f 0 rfl,S.f 1 rfl,S.f 2 rfl,S.f 3 rfl,S.f 4 rfl,S.f 5 rfl,S.f 6 rfl,S.f 7 rfl,S.f 8 rfl,S.f 9 rfl⟩
end
def St.nw{W w:World}{bs:List (Nat× cH)}{rs:List (cG× cH)}(S:St W w bs rs)(cs:Array Value)(t:TypeId)(g:Nat){l:cH}(hg:w.heap.size=g:=by first|rfl|simp)(hl:cs.toList=l:=by exact rfl):St W (w.alloc (.cells cs t)) ((g,l) :: bs) rs:=S.iE cs t g l hg hl
def St.s{W w:World}{bs:List (Nat× cH)}{rs:List (cG× cH)}(S:St W w bs rs)(i j:Nat)(u:Value){g:Nat}{cs:cH}(hi:bs[i]?=some (g,cs):=by exact rfl)(hj:j<cs.length:=by simp)(hg:W.heap.size≤g:=by first|exact cj|omega)(hd:∀x∈bs.eraseIdx i,x.1≠g:=by first|(simp;done)|(simp;omega)){bs':List (Nat× cH)}(hbs:bs.set i (g,cs.set j u)=bs':=by exact rfl):St W (w.setCell ⟨g,j,none⟩ u) bs' rs:=S.set i j u hi hj hg hd bs' hbs
def fJ{P:Program}{t e:TypeId}{z:Value}{size bytes:Nat}{w:World}{ops:Array Oper}{o:Oper}{a:Act}{K:Act→World→Prop}{Q:Exit→Act→World→Prop}{F:Prop}(i:o.guard=none)(hE:iF P t e z size bytes)(s x:Operand)
 (ho:o.op= .call { callee:=.builtin .append,args:=#[s,x],argTypes:=#[t,t] }) (base:Nat) {v:Value} {n:Nat} {xs:cH} (hs:a.eval s=v) (f:w.ownsRow base e size v n xs)
 {A:cG} {m c:Nat} {news:cH} (hx:a.eval x= .slice A m c) (hl:news.length=m*size) (hr:Rd w A news) (h1:∀u∈news,u.oneCell'=true)
 (j:n+m≤maxLen) (d:(n+m)*bytes≤140737488355328) (b:base≤w.heap.size) (N:Nat) (L:cH) (hN:n+m=N) (hL:xs++news=L)
 (h:∀v' w',w'.ownsRow base e size v' N L→Below base w w'→w.grownBy w' v.ownBlock→(v'.ownBlock=v.ownBlock∨v'.ownBlock=some w.heap.size)→K (a.put o.dst v') w') :
 if Region.wanted o (yielded ops a.tmps)=true then Oper.wp P o a w K Q else F:=by
 have hw:Region.wanted o (yielded ops a.tmps)=true:=by simp[Region.wanted,i]
 rw[cR hw];subst hN hL;obtain⟨v',w',g,h2,h3,h4⟩:=Dz (P:=P) w hE o.type base f (c:=c) hl hr h1 j d b;unfold Oper.wp execOp;simp only[ho,resolve,invoke,builtin,BF,Sem.run_pure,Result.andThen_ok,yn,gh,nf,hs,hx,g];exact h v' w' h2 (kP cy f h3 cj b) h3 h4
def bd{w:World}:cI w w.drew:=cy.drew
def JZ{w:World}(n:Nat):cI w (w.drewN n):=below_drewN cy n
end Go.Proofs.YtehimhbgakpenaaGreat
namespace Go.Proofs.YtehimhbgakpenaaGreat
open Go.RowKit Go.ChangeShapes Go.WideShapes Go.ChangeAt
def En{α:Type}(R:α→cH→Prop)(s:Nat):List α→cH→Prop
 | [],vs=>vs= []
 |x :: xs,vs=>∃c r,vs=c++r∧R x c∧c.length=s∧En R s xs r
section
variable {α:Type} {R:α → cH → Prop} {s:Nat}
def En.length{xs:List α}:∀ {vs:cH},En R s xs vs→vs.length=xs.length*s:=by
 induction xs with
 |nil=>intro vs h;simp[En]at h;simp[h]
 |cons x xs ih=>
   rintro vs ⟨c,r,rfl,_,hc,hr⟩;rw[cX,hc,ih hr,dG,oQ];omega
def En.append{xs ys:List α}:∀ {vs us:cH},En R s xs vs→En R s ys us→En R s (xs++ys) (vs++us):=by
 induction xs with
 |nil=>intro vs us h h2;simp[En]at h;subst h;simpa using h2
 |cons x xs ih=>
   rintro vs us ⟨c,r,rfl,h1,hc,hr⟩ h2;exact⟨c,r++us,by simp,h1,hc,ih hr h2⟩
def En.one{x:α}{c:cH}(h:R x c)(hc:c.length=s):En R s [x] c:=⟨c,[],by simp,h,hc,rfl⟩
end
def lj(k:IntKind)(n:Int)(cs:cH):Prop:=cs= [.int k n]∧(Lit.int k n).wf=true
def Bh(b:Bool)(cs:cH):Prop:=cs= [.bool b]
def Ul{α:Type}(w:World)(R:α→cH→Prop)(s:Nat)(xs:List α)(cs:cH):Prop :=
 ∃A c vs,cs= [.slice A xs.length c]∧xs.length≤c∧c≤maxLen∧En R s xs vs∧Rd w A vs
def Ka{α β:Type}(R:α→cH→Prop)(S:β→cH→Prop)(x:α× β)(cs:cH):Prop:=∃c d,cs=c++d∧R x.1 c∧S x.2 d
def fH(P:Program)(w:World)(t:TypeId){α:Type}(R:α→cH→Prop):Prop :=
 ∀ {H:Type} {enc:TypeId× Value→H} {base:Nat} {spare:Nat→Bool} {held:Bool} {fuel:Nat} {cs:cH} {x:DataW H× List MemPlace},
   DataW.trod enc P w base spare held fuel t cs=some x→ ∃a,R a cs∧cs.length=P.cellsOf t
section
variable {P:Program} {w:World} {t:TypeId}
def iL{k:IntKind}(ht:P.underlying t=some (.int k))(hc:P.cellsOf t=1):fH P w t (lj k):=by
 intro H enc base spare held fuel cs x h;obtain⟨n,rfl,_,hw⟩:=DataW.trod_int ht h;exact⟨n,⟨rfl,hw⟩,by simp[hc]⟩
def vn(ht:P.underlying t=some .bool)(hc:P.cellsOf t=1):fH P w t Bh:=by
 intro H enc base spare held fuel cs x h;obtain⟨n,rfl,_⟩:=DataW.trod_bool ht h;exact⟨n,rfl,by simp[hc]⟩
def lR{α:Type}{R:α→cH→Prop}{e:TypeId}(ht:P.underlying t=some (.slice e))(hc:P.cellsOf t=1)(hR:fH P w e R):fH P w t (Ul w R (P.cellsOf e)):=by
 intro H A base spare held fuel cs x h;rcases DataW.trod_slice ht h with ⟨rfl,_⟩|⟨a,len,cap,elems,rest,n,_,rfl,_,_,z,r,vL,y,_,_⟩
 ·exact⟨[],⟨none,0,[],rfl,cj,jw _,rfl,Rd.nil _ _⟩,by simp[hc]⟩
 ·-- each element
  have k:∀i,i<len→ ∃(b:α) (c:cH),R b c∧c.length=P.cellsOf e∧ ∀j u,c[j]?=some u→w.cell? (a.add (i*P.cellsOf e+j))=some u:=by
   intro i hi;have h1:=y i hi;rw[cM (by omega)]at h1;obtain⟨c,s,o⟩:=ym.1 h1;obtain⟨_,hl,g⟩:=World.cells?_some s;obtain⟨b,hb,_⟩:=hR o;refine⟨b,c,hb,hl,fun j u hu=>?_⟩
   have hj:j<P.cellsOf e:=by have:=(dj.1 hu).1;omega
   rw[←xh,g j hj,hu]
  have l:∀m,m≤len→ ∃(xs:List α) (vs:cH),xs.length=m∧En R (P.cellsOf e) xs vs∧ ∀j u,vs[j]?=some u→w.cell? (a.add j)=some u:=by
   intro m
   induction m with
   |zero=>intro _;exact⟨[],[],rfl,rfl,by simp⟩
   |succ m ih=>
     intro hm;obtain⟨xs,vs,hl,d,f⟩:=ih (by omega);obtain⟨b,c,hb,q,v⟩:=k m (by omega);refine⟨xs++ [b],vs++c,by simp[hl],d.append (En.one hb q),fun j u hu=>?_⟩
     have p:=d.length;rw[hl]at p;rw[List.getElem?_append]at hu;split at hu
     ·exact f j u hu
     ·have:=v _ u hu;rw[show m*P.cellsOf e+(j - vs.length)=j from by omega]at this;exact this
  obtain⟨xs,vs,hl,d,f⟩:=l len cj;exact⟨xs,⟨some a,cap,vs,by rw[hl],by omega,r,d,fun _=>⟨a,rfl,f⟩⟩,by simp[hc]⟩
def Ia{α:Type}{R:α→cH→Prop}{e:TypeId}(ht:P.underlying t=some (.array 2 e))(hC:P.cellsOf t=2*P.cellsOf e)(hR:fH P w e R):fH P w t (Ka R R):=by
 intro H d base spare held fuel cs x h;obtain⟨xs,m,_,_,c,hl,hi⟩:=DataW.trod_array ht h;have h0:=hi 0 (by omega);have h1:=hi 1 (by omega);rw[cM (by omega)]at h0 h1;obtain⟨a,ra,_⟩:=hR h0;obtain⟨b,rb,_⟩:=hR h1;refine⟨(a,b),⟨_,_,?_,ra,rb⟩,c⟩
 simp only[pP,Ca,Nat.one_mul];rw[dn (l:=cs.drop _) (by rw[fz];omega),qo]
def uP{α β:Type}{R:α→cH→Prop}{S:β→cH→Prop}{f g:Field}(ht:P.underlying t=some (.struct #[f,g]))(hf:f.offset=0)(hg:g.offset=P.cellsOf f.type)
  (hC:P.cellsOf t=P.cellsOf f.type+P.cellsOf g.type) (hR:fH P w f.type R) (hS:fH P w g.type S):fH P w t (Ka R S):=by
 intro H d base spare held fuel cs x h;obtain⟨xs,n,_,_,c,hl,hi⟩:=mH ht h;simp at hl;have h0:=hi 0 f rfl;have h1:=hi 1 g rfl;rw[cM (by omega)]at h0 h1;obtain⟨a,ra,_⟩:=hR h0;obtain⟨b,rb,_⟩:=hS h1;refine⟨(a,b),⟨_,_,?_,ra,rb⟩,c⟩
 rw[hf,hg,Ca];rw[dn (l:=cs.drop _) (by rw[fz];omega),qo]
end
def LQ:ownKnob Tryz.prog.godebug=none:=by kernel_rfl
def qh:laidOutB Tryz.prog=true:=by kernel_rfl
section
variable {H:Type} {enc:TypeId × Value → H} {P:Program} {w:World} {base:Nat} {spare:Nat → Bool} {held:Bool} {r:Reach} {b0:Nat} {t:TypeId} {v:Value} {d:DataW H} {ps:List MemPlace}
def Mq{α:Type}{R:α→cH→Prop}{e:TypeId}(ht:P.underlying t=some (.slice e))(hO:fH P w t R)(hv:Value.okWide P w r b0 t v)(h:DataW.Trod enc P w base spare held t v d ps) :
  ∃(A:cG) (n c:Nat) (x:α),v= .slice A n c∧R x [.slice A n c]:=by
 obtain⟨A,n,c,rfl⟩:=okWide_slice ht hv;obtain⟨fuel,hf⟩:=h;obtain⟨x,hx,_⟩:=hO hf;exact⟨A,n,c,x,rfl,hx⟩
def AH{α:Type}{R:α→cH→Prop}{fs:Array Field}(ht:P.underlying t=some (.struct fs))(hO:fH P w t R)(hv:Value.okWide P w r b0 t v)(h:DataW.Trod enc P w base spare held t v d ps) :
  ∃(cs:cH) (x:α),v= .agg cs.toArray∧R x cs:=by
 obtain⟨cs,rfl,_⟩:=okWide_struct ht hv;obtain⟨fuel,hf⟩:=h;obtain⟨x,hx,_⟩:=hO hf;exact⟨cs.toList,x,by simp,hx⟩
end
end Go.Proofs.YtehimhbgakpenaaGreat
