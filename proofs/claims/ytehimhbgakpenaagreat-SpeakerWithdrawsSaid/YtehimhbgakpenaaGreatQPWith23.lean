/-
  The texts DbA, DbO, DbNw, DbL, Rd1, RdA, Db8, DbNl, Db9, one after the other.
-/
import Derived.Test.YtehimhbgakpenaaGreatQPWith22
import Derived.Test.YtehimhbgakpenaaGreatQPWith9
import Derived.Test.YtehimhbgakpenaaGreatQPWith20
import Derived.Test.YtehimhbgakpenaaGreatQPWith5
import Derived.Deep.MidRow
namespace Go.Proofs.YtehimhbgakpenaaGreat
set_option linter.unusedVariables false
open Go.RowKit Go.Maps Go.Sort
def bare (o s a:Int) (ov:Bool):La:=⟨o,s,a,ov,[],[]⟩
theorem bare_valid (o s a:Int) (ov:Bool) (h0:0 ≤ o) (h1:o ≤ 63) (h2:1 ≤ s) (h3:s ≤ 1073741824) (h4:0 ≤ a) (h5:a < 3600):LaValid (bare o s a ov):=by
 refine ⟨⟨h0,h1⟩,⟨h2,h3⟩,⟨h4,by simp only [bare]; omega⟩,by simp [bare],by simp [bare],fun h=>by simp only [bare] at h; omega,fun k x hk=>by simp [bare] at hk,fun k x hk=>by simp [bare] at hk⟩
theorem bare_purge (o s:Int) (h0:0 ≤ o) (h1:o ≤ 63) (h2:1 ≤ s) (h3:s ≤ 1073741824):LaValid (bare o s 3600 false):=by
 refine ⟨⟨h0,h1⟩,⟨h2,h3⟩,by simp [bare],by simp [bare],by simp [bare],fun h=>by simp [bare],fun k x hk=>by simp [bare] at hk,fun k x hk=>by simp [bare] at hk⟩
def one (x:La) (l:Int):Db:=fun i=>if i = 2 then some ⟨x,l⟩ else none
theorem v4:LaValid (bare 2 4 0 false):=bare_valid 2 4 0 false (by omega) (by omega) (by omega) (by omega) (by omega) (by omega)
theorem v3:LaValid (bare 2 3 0 false):=bare_valid 2 3 0 false (by omega) (by omega) (by omega) (by omega) (by omega) (by omega)
theorem v5:LaValid (bare 2 5 0 false):=bare_valid 2 5 0 false (by omega) (by omega) (by omega) (by omega) (by omega) (by omega)
theorem v6:LaValid (bare 2 5 3600 false):=bare_purge 2 5 (by omega) (by omega) (by omega) (by omega)
end Go.Proofs.YtehimhbgakpenaaGreat

namespace Go.Proofs.YtehimhbgakpenaaGreat
set_option linter.unusedVariables false
open Go.RowKit
theorem cmpI_neg (a b:Int):cmpI b a = - cmpI a b:=by unfold cmpI; split <;> split <;> (try split) <;> omega
theorem cmpI_bd (a b:Int):cmpI a b = -1 ∧ a < b ∨ cmpI a b = 0 ∧ a = b ∨ cmpI a b = 1 ∧ b < a:=by unfold cmpI; split <;> (try split) <;> omega
theorem cmpB_neg:∀ (a b:List UInt8),Lib.compareBytes b a = - Lib.compareBytes a b
 | [],[]=>rfl
 | [],_ :: _=>rfl
 | _ :: _,[]=>rfl
 | x :: a,y :: b=>by
   unfold Lib.compareBytes
   by_cases h1:x < y
   ·have h2:¬ y < x:=fun h=>absurd (UInt8.lt_trans h1 h) (UInt8.lt_irrefl _)
    simp [h1,h2]
   ·by_cases h2:y < x
    ·simp [h1,h2]
    ·simp [h1,h2,cmpB_neg a b]
theorem cmpB_trans:∀ (a b c:List UInt8),0 ≤ Lib.compareBytes a b → 0 ≤ Lib.compareBytes b c → 0 ≤ Lib.compareBytes a c
 | [],[],[]=>by simp [Lib.compareBytes]
 | [],[],_ :: _=>by simp [Lib.compareBytes]
 | [],_ :: _,_=>by simp [Lib.compareBytes]
 | _ :: _,_,[]=>by simp [Lib.compareBytes]
 | _ :: _,[],_ :: _=>by simp [Lib.compareBytes]
 | x :: a,y :: b,z :: c=>by
   have ih:=cmpB_trans a b c
   intro h1 h2
   unfold Lib.compareBytes at h1 h2 ⊢
   by_cases e1:x < y
   ·simp [e1] at h1
   ·by_cases e2:y < z
    ·simp [e2] at h2
    ·have e3:¬ x < z:=fun h=>by
      rw [UInt8.lt_iff_toNat_lt] at *; omega
     by_cases e4:z < x
     ·simp [e3,e4]
     ·have e5:¬ y < x:=fun h=>by rw [UInt8.lt_iff_toNat_lt] at *; omega
      have e6:¬ z < y:=fun h=>by rw [UInt8.lt_iff_toNat_lt] at *; omega
      simp only [e1,e2,e3,e4,e5,e6,if_false] at h1 h2 ⊢
      exact ih h1 h2
theorem newI_v {x y:La} (hx:LaValid x) (hy:LaValid y):newI x y = if x.s = y.s then (if (x.a == 3600) = (y.a == 3600) then Lib.compareBytes (laEnc (age0 x)) (laEnc (age0 y)) else if (x.a == 3600) = true then 1 else -1) else cmpI x.s y.s:=by
 unfold newI
 rw [vB_t hx,vB_t hy]
 exact if_pos ⟨rfl,rfl⟩
def KeyGe (x y:La):Prop:=y.s < x.s ∨ x.s = y.s ∧ (x.a = 3600 ∧ y.a ≠ 3600 ∨ ((x.a == 3600) = (y.a == 3600)) ∧ 0 ≤ Lib.compareBytes (laEnc (age0 x)) (laEnc (age0 y)))
theorem newI_neg {x y:La} (hx:LaValid x) (hy:LaValid y):newI y x = - newI x y:=by
 rw [newI_v hx hy,newI_v hy hx]
 by_cases h:x.s = y.s
 ·rw [if_pos h,if_pos h.symm]
  by_cases h2:(x.a == 3600) = (y.a == 3600)
  ·rw [if_pos h2,if_pos h2.symm]; exact cmpB_neg _ _
  ·rw [if_neg h2,if_neg (fun e=>h2 e.symm)]
   rcases e1:(x.a == 3600) with _ | _ <;> rcases e2:(y.a == 3600) with _ | _
   ·rw [e1,e2] at h2; exact absurd rfl h2
   ·simp
   ·simp
   ·rw [e1,e2] at h2; exact absurd rfl h2
 ·rw [if_neg h,if_neg (fun e=>h e.symm)]; exact cmpI_neg _ _
theorem newI_bd {x y:La} (hx:LaValid x) (hy:LaValid y):-1 ≤ newI x y ∧ newI x y ≤ 1:=by
 unfold newI
 rw [vB_t hx,vB_t hy,if_pos ⟨rfl,rfl⟩]
 have h1:=cmp_bd (laEnc (age0 x)) (laEnc (age0 y))
 have h2:=cmpI_bd x.s y.s
 split
 ·split
  ·omega
  ·split <;> omega
 ·omega
theorem newI_ge {x y:La} (hx:LaValid x) (hy:LaValid y):0 ≤ newI x y ↔ KeyGe x y:=by
 unfold newI KeyGe
 rw [vB_t hx,vB_t hy,if_pos ⟨rfl,rfl⟩]
 by_cases h:x.s = y.s
 ·rw [if_pos h]
  by_cases h2:(x.a == 3600) = (y.a == 3600)
  ·rw [if_pos h2]
   constructor
   ·intro h3; exact .inr ⟨h,.inr ⟨h2,h3⟩⟩
   ·rintro (h3 | ⟨_,⟨h3,h4⟩ | ⟨_,h3⟩⟩)
    ·omega
    ·rw [h3] at h2; simp at h2; exact absurd h2 h4
    ·exact h3
  ·rw [if_neg h2]
   rcases e1:(x.a == 3600) with _ | _ <;> rcases e2:(y.a == 3600) with _ | _
   ·rw [e1,e2] at h2; exact absurd rfl h2
   ·simp only [beq_eq_false_iff_ne,beq_iff_eq] at e1 e2
    constructor
    ·intro h3; simp at h3
    ·rintro (h3 | ⟨_,⟨h3,h4⟩ | ⟨h3,_⟩⟩)
     ·omega
     ·exact absurd h3 e1
     ·cases h3
   ·simp only [beq_eq_false_iff_ne,beq_iff_eq] at e1 e2
    constructor
    ·intro _; exact .inr ⟨h,.inl ⟨e1,e2⟩⟩
    ·intro _; simp
   ·rw [e1,e2] at h2; exact absurd rfl h2
 ·rw [if_neg h]
  have:=cmpI_bd x.s y.s
  constructor
  ·intro h3; left; omega
  ·rintro (h3 | ⟨h3,_⟩)
   ·omega
   ·exact absurd h3 h
theorem KeyGe.trans {x y z:La} (h1:KeyGe x y) (h2:KeyGe y z):KeyGe x z:=by
 unfold KeyGe at *
 rcases h1 with h1 | ⟨e1,h1⟩
 ·rcases h2 with h2 | ⟨e2,_⟩
  ·left; omega
  ·left; omega
 ·rcases h2 with h2 | ⟨e2,h2⟩
  ·left; omega
  ·right
   refine ⟨by omega,?_⟩
   rcases h1 with ⟨a1,b1⟩ | ⟨a1,b1⟩
   ·rcases h2 with ⟨a2,b2⟩ | ⟨a2,b2⟩
    ·exact absurd a2 b1
    ·left
     refine ⟨a1,fun h=>b1 ?_⟩
     rw [h] at a2; simpa using a2
   ·rcases h2 with ⟨a2,b2⟩ | ⟨a2,b2⟩
    ·left
     refine ⟨?_,b2⟩
     rw [a2] at a1; simpa using a1
    ·right
     exact ⟨a1.trans a2,cmpB_trans _ _ _ b1 b2⟩
end Go.Proofs.YtehimhbgakpenaaGreat

namespace Go.Proofs.YtehimhbgakpenaaGreat
set_option linter.unusedVariables false
open Go.RowKit
end Go.Proofs.YtehimhbgakpenaaGreat

namespace Go.Proofs.YtehimhbgakpenaaGreat
set_option linter.unusedVariables false
open Go.RowKit Go.Sort Go.ChangeShapes Go.WideShapes Go.ChangeAt
structure Lx where
 y:La
 A:Option Addr
 c:Nat
 B:Option Addr
 d:Nat
def lxL (s:Lx):List Value:=[.int .i64 s.y.o,.int .i64 s.y.s,.int .i64 s.y.a,.bool s.y.ov,.slice s.A s.y.adj.length s.c,.slice s.B s.y.pre.length s.d]
def lxV:List Lx → List Value
 | []=>[]
 | s :: l=>lxL s ++ lxV l
def LxOk (w:World) (s:Lx):Prop:=LaAt w (laV s.y.o s.y.s s.y.a s.y.ov s.A s.y.adj.length s.c s.B s.y.pre.length s.d) s.y
theorem lxV_len (l:List Lx):(lxV l).length = l.length * 6:=by
 induction l with
 | nil=>rfl
 | cons r l ih=>simp only [lxV,lxL,List.length_append,List.length_cons,List.length_nil,ih]; omega
theorem lxV_get (l:List Lx):∀ (k:Nat) (hk:k < l.length) (j:Nat) (hj:j < 6),(lxV l)[6 * k + j]? = (lxL l[k])[j]?:=by
 induction l with
 | nil=>intro k hk; simp at hk
 | cons r l ih =>
   intro k hk j hj
   have h8:(lxL r).length = 6:=rfl
   cases k with
   | zero=>simp only [lxV,List.getElem_cons_zero]; rw [List.getElem?_append_left (by omega)]; simp
   | succ k =>
     simp only [lxV,List.getElem_cons_succ]
     rw [List.getElem?_append_right (by omega),h8,show 6 * (k + 1) + j - 6 = 6 * k + j by omega]
     exact ih k (by simpa using hk) j hj
theorem rd_lx {w:World} {A:Option Addr} {l:List Lx} (h:Rd w A (lxV l)) (hn:0 < l.length) :
  ∃ b off,A = some ⟨b,off,none⟩ ∧ ∀ k (hk:k < l.length) j (u:Value),j < 6 → (lxL l[k])[j]? = some u → w.cell? ⟨b,off + k * 6 + j,none⟩ = some u:=by
 obtain ⟨b,off,e,hc⟩:=rd_at h (by rw [lxV_len]; omega)
 refine ⟨b,off,e,fun k hk j u hj hu=>?_⟩
 rw [Nat.add_assoc]
 exact hc _ _ (by rw [Nat.mul_comm k 6,lxV_get l k hk j hj]; exact hu)
section
variable {H:Type} {enc:TypeId × Value → H} {w:World} {base:Nat} {spare:Nat → Bool} {held:Bool} {r:Reach} {b0:Nat} {v:Value} {d:DataW H} {ps:List MemPlace}
end
end Go.Proofs.YtehimhbgakpenaaGreat

namespace Go.Proofs.YtehimhbgakpenaaGreat
set_option linter.unusedVariables false
open Go.RowKit Go.Maps Go.Sort
structure Rs where
 x:Lx
 l:Int
 is:Bool
section
variable (R:Nat → Rs)
end
def upR (R:Nat → Rs) (i:Nat) (s:Rs):Nat → Rs:=fun j=>if j = i then s else R j
theorem upR_same (R:Nat → Rs) (i:Nat) (s:Rs):upR R i s i = s:=by simp [upR]
theorem upR_other (R:Nat → Rs) {i j:Nat} (s:Rs) (h:j ≠ i):upR R i s j = R j:=by simp [upR,h]
def RdOk (w:World) (R:Nat → Rs):Prop:=∀ i,i < 64 → LxOk w (R i).x
theorem RdOk.below {w w':World} {R:Nat → Rs} (h:RdOk w R) (hb:Below w.heap.size w w'):RdOk w' R:=fun i hi=>by
 have:=h i hi
 unfold LxOk at *
 exact this.below hb
theorem RdOk.up {w:World} {R:Nat → Rs} (h:RdOk w R) (i:Nat) (s:Rs) (hs:LxOk w s.x):RdOk w (upR R i s):=fun j hj=>by
 by_cases e:j = i
 ·subst e; rw [upR_same]; exact hs
 ·rw [upR_other R _ e]; exact h j hj
theorem Box.range {w:World} {g:Nat} {cs:List Value} (h:Box w g cs):w.rangeAt g 0 cs:=fun j v hv=>by rw [Nat.zero_add]; exact (h j v hv).1
theorem Box.there {w:World} {g:Nat} {cs:List Value} (h:Box w g cs) {n:Nat} (hn:cs.length = n):w.there g 0 n:=fun j hj=>by
 have:=h j _ (List.getElem?_eq_getElem (by omega))
 rw [Nat.zero_add]
 exact ⟨by rw [this.1]; rfl,this.2⟩
end Go.Proofs.YtehimhbgakpenaaGreat

namespace Go.Proofs.YtehimhbgakpenaaGreat
set_option linter.unusedVariables false
open Go.RowKit Go.Maps Go.Sort
theorem laT:ElemT Tryz.prog 48 41 (.agg #[.int .i64 0,.int .i64 0,.int .i64 0,.bool false,.slice none 0 0,.slice none 0 0]) 6 80:=⟨Tryz.underlying48,by kernel_rfl,rfl,by omega⟩
theorem lxL_one (s:Lx):∀ u ∈ lxL s,u.oneCell' = true:=by
 intro u hu
 simp only [lxL,List.mem_cons,List.not_mem_nil,or_false] at hu
 rcases hu with e | e | e | e | e | e <;> rw [e] <;> rfl
theorem lxV_append (a b:List Lx):lxV (a ++ b) = lxV a ++ lxV b:=by
 induction a with
 | nil=>rfl
 | cons r l ih=>simp only [List.cons_append,lxV,ih,List.append_assoc]
theorem Box.belowB {w w':World} {g B:Nat} {cs:List Value} (h:Box w g cs) (hb:Below B w w') (hg:g < B):Box w' g cs:=fun i u hu=>by
 have hk:=hb.block g hg
 have:=h i u hu
 exact ⟨(World.cell?_of_block (a:=⟨g,i,none⟩) hk).trans this.1,(World.frozen?_of_block (a:=⟨g,i,none⟩) hk).trans this.2⟩
theorem St.belowB {W w w':World} {bs:List (Nat × List Value)} {rs:List (Option Addr × List Value)} {B:Nat} (S:St W w bs rs) (hb:Below B w w') (hB:W.heap.size ≤ B) (hd:∀ x ∈ bs,x.1 < B):St W w' bs rs :=
 ⟨S.b.trans (hb.mono hB),fun i x hx=>(S.bx i x hx).belowB hb (hd x (List.mem_of_getElem? hx)),S.rd⟩
end Go.Proofs.YtehimhbgakpenaaGreat

namespace Go.Proofs.YtehimhbgakpenaaGreat
set_option linter.unusedVariables false
open Go.RowKit Go.Maps Go.Sort
def DbP (w:World) (v:Value) (N:Db):Prop:=(v = .pointer none ∧ N = fun _=>none) ∨ ∃ g b,v = .pointer (some ⟨g,0,none⟩) ∧ DbAt w g b N
theorem DbAt.p {w:World} {g b:Nat} {N:Db} (h:DbAt w g b N):DbP w (.pointer (some ⟨g,0,none⟩)) N:=.inr ⟨g,b,rfl,h⟩
theorem DbP.nil (w:World):DbP w (.pointer none) (fun _=>none):=.inl ⟨rfl,rfl⟩
theorem DbP.below {w w':World} {v:Value} {N:Db} (h:DbP w v N) (hb:Below w.heap.size w w'):DbP w' v N:=by
 rcases h with h | ⟨g,b,e,h⟩
 ·exact .inl h
 ·exact .inr ⟨g,b,e,h.below hb⟩
theorem DbAt.el {w:World} {g b:Nat} {N:Db} (h:DbAt w g b N) {q:Nat} (hq:q < 64) {hh:Hd} (hN:N q = some hh) :
  ∃ A c B d,(∀ w',Below w.heap.size w w' → (Instr.lookup 157 (.map (some b)) (.int .i64 (q:Int)) false).run Tryz.prog w' = .ok (hdV hh.x A c B d hh.l) w') ∧ LaAt w (laV hh.x.o hh.x.s hh.x.a hh.x.ov A hh.x.adj.length c B hh.x.pre.length d) hh.x:=by
 obtain ⟨⟨M,hm,he⟩,hc⟩:=h
 have heq:=he q hq
 rw [hN] at heq
 cases hM:M (q:Int) with
 | none=>rw [hM] at heq; exact heq.elim
 | some vv =>
   rw [hM] at heq
   obtain ⟨A,c,B,d,rfl,hla⟩:=heq
   refine ⟨A,c,B,d,fun w' hb=>?_,hla.1⟩
   have:=(hm.below hb).run_at (i:=(q:Int)) (wf64 (by omega) (by omega))
   rw [hM] at this
   exact this
theorem DbAt.map {w:World} {g b:Nat} {N:Db} (h:DbAt w g b N):∃ M,MapIs w b M:=by
 obtain ⟨⟨M,hm,_⟩,_⟩:=h
 exact ⟨M,hm⟩
theorem hd_field (x:La) (A:Option Addr) (c:Nat) (B:Option Addr) (d:Nat) (l:Int) (W:World):(Instr.field 206 (hdV x A c B d l) 0).run Tryz.prog W = .ok (laV x.o x.s x.a x.ov A x.adj.length c B x.pre.length d) W:=by kernel_rfl
end Go.Proofs.YtehimhbgakpenaaGreat

namespace Go.Proofs.YtehimhbgakpenaaGreat
set_option linter.unusedVariables false
open Go.RowKit Go.Maps Go.Sort
theorem lx_cells {w:World} {b off:Nat} {l:List Lx} (h:Rd w (some ⟨b,off,none⟩) (lxV l)) (k:Nat) (hk:k < l.length) (s:Lx) (hs:l[k] = s) :
  w.cell? ⟨b,off + k * 6,none⟩ = some (.int .i64 s.y.o) ∧ w.cell? ⟨b,off + k * 6 + 1,none⟩ = some (.int .i64 s.y.s) ∧ w.cell? ⟨b,off + k * 6 + 2,none⟩ = some (.int .i64 s.y.a) ∧
  w.cell? ⟨b,off + k * 6 + 3,none⟩ = some (.bool s.y.ov) ∧ w.cell? ⟨b,off + k * 6 + 4,none⟩ = some (.slice s.A s.y.adj.length s.c) ∧ w.cell? ⟨b,off + k * 6 + 5,none⟩ = some (.slice s.B s.y.pre.length s.d):=by
 subst hs
 obtain ⟨b',off',e,hc⟩:=rd_lx h (by omega)
 injection e with e
 injection e with e1 e2 e3
 subst e1 e2
 have x0:=hc k hk 0 _ (by omega) rfl
 have x1:=hc k hk 1 _ (by omega) rfl
 have x2:=hc k hk 2 _ (by omega) rfl
 have x3:=hc k hk 3 _ (by omega) rfl
 have x4:=hc k hk 4 _ (by omega) rfl
 have x5:=hc k hk 5 _ (by omega) rfl
 simp only [Nat.add_zero] at x0
 exact ⟨x0,x1,x2,x3,x4,x5⟩
theorem lx_form {w:World} {A:Option Addr} {l:List Lx} (h:Rd w A (lxV l)) (hn:0 < l.length):∃ b off,A = some ⟨b,off,none⟩:=by
 obtain ⟨b,off,e,_⟩:=rd_lx h hn
 exact ⟨b,off,e⟩
abbrev laL (l:List Lx):List La:=l.map (·.y)
theorem laL_get (l:List Lx) (k:Nat) (hk:k < l.length):(laL l)[k]'(by simpa [laL] using hk) = l[k].y:=by simp [laL]
end Go.Proofs.YtehimhbgakpenaaGreat

namespace Go.Proofs.YtehimhbgakpenaaGreat
set_option linter.unusedVariables false
open Go.RowKit Go.Maps Go.Sort
theorem own_rowNe {w w':World} {base:Nat} {e:TypeId} {size:Nat} {v:Value} {n:Nat} {xs:List Value} {row:Option Nat} (h:w.ownsRow base e size v n xs) (hg:w.grownBy w' row) (hne:v.ownBlock = none ∨ v.ownBlock ≠ row):w'.ownsRow base e size v n xs:=by
 refine ⟨h.1,?_⟩
 rcases h.2 with h2 | ⟨g,cap,cur,rfl,hgb,hh,r⟩
 ·exact .inl h2
 ·exact .inr ⟨g,cap,cur,rfl,hgb,(hg.block g (h.lt g rfl).2 (fun e=>by
   rcases hne with h3 | h3
   ·cases h3
   ·exact h3 e)).trans hh,r⟩
theorem LaOwn.app {w w':World} {base base2:Nat} {u:Value} {x:La} {v2:Value} {n:Nat} {xs:List Value} (h:LaOwn w base u x) (hl:w.ownsRow base2 41 6 v2 n xs) (hg:w.grownBy w' v2.ownBlock):LaOwn w' base u x:=by
 obtain ⟨A,c,B,d,rfl,o1,o2,hu⟩:=h
 exact ⟨A,c,B,d,rfl,own_rowNe o1 hg (own_ne o1 hl (by decide)),own_rowNe o2 hg (own_ne o2 hl (by decide)),hu⟩
theorem LaOwn.mono' {w:World} {base base':Nat} {u:Value} {x:La} (h:LaOwn w base u x) (hb:base' ≤ base):LaOwn w base' u x:=by
 obtain ⟨A,c,B,d,rfl,o1,o2,hu⟩:=h
 exact ⟨A,c,B,d,rfl,own_mono o1 hb,own_mono o2 hb,hu⟩
def LxOwn (w:World) (base:Nat) (s:Lx):Prop:=LaOwn w base (laV s.y.o s.y.s s.y.a s.y.ov s.A s.y.adj.length s.c s.B s.y.pre.length s.d) s.y
theorem LxOwn.ok {w:World} {base:Nat} {s:Lx} (h:LxOwn w base s):LxOk w s:=LaOwn.at h
def allN (N:Db):List La:=(orgs N).map fun i=>getX (N i.toNat)
def DAllPost (w:World) (N:Db) (e:Ending) (w':World):Prop :=
 ∃ A c ls,e = .returned (.slice A (orgs N).length c) ∧ w'.ownsRow w.heap.size 41 6 (.slice A (orgs N).length c) (orgs N).length (lxV ls) ∧ laL ls = allN N ∧ (∀ s ∈ ls,LxOwn w' w.heap.size s) ∧ Below w.heap.size w w'
structure AllAt (w wr:World) (N:Db) (B:Option Addr) (d:Nat) (k:Nat) (v:Value) (ls:List Lx):Prop where
 og:wr.ownsRow w.heap.size 3 1 (.slice B (orgs N).length d) (orgs N).length ((orgs N).map encZ)
 own:wr.ownsRow w.heap.size 41 6 v k (lxV ls)
 la:laL ls = (allN N).take k
 ok:∀ s ∈ ls,LxOwn wr w.heap.size s
 bel:Below w.heap.size w wr
theorem AllAt.below {w wr w':World} {N:Db} {B:Option Addr} {d k:Nat} {v:Value} {ls:List Lx} (h:AllAt w wr N B d k v ls) (hb:Below wr.heap.size wr w'):AllAt w w' N B d k v ls :=
 ⟨own_below h.og hb,own_below h.own hb,h.la,fun s hs=>LaOwn.below (h.ok s hs) hb,h.bel.trans (hb.mono h.bel.size)⟩
theorem AllAt.app {w wr w':World} {N:Db} {B:Option Addr} {d k:Nat} {v v':Value} {ls:List Lx} (h:AllAt w wr N B d k v ls) {s:Lx} (hs:LxOwn wr w.heap.size s) (hk:k < (orgs N).length) (hy:s.y = getX (N (orgs N)[k].toNat))
  (ho:w'.ownsRow w.heap.size 41 6 v' (k + 1) (lxV ls ++ lxL s)) (hb:Below w.heap.size wr w') (hg:wr.grownBy w' v.ownBlock):AllAt w w' N B d (k + 1) v' (ls ++ [s]):=by
 refine ⟨own_rowNe h.og hg (own_ne h.og h.own (by decide)),by rw [lxV_append]; simpa [lxV] using ho,?_,fun z hz=>?_,h.bel.trans hb⟩
 ·have hk2:k < (allN N).length:=by simpa [allN] using hk
  rw [List.take_succ_eq_append_getElem hk2,← h.la]
  have e2:(allN N)[k] = s.y:=by rw [hy]; simp [allN]
  rw [e2]; simp [laL]
 ·rcases List.mem_append.1 hz with hz | hz
  ·exact LaOwn.app (h.ok z hz) h.own hg
  ·rw [List.mem_singleton.1 hz]; exact LaOwn.app hs h.own hg
set_option maxRecDepth 100000 in
set_option maxHeartbeats 6400000 in
theorem dall_any (w:World) (g b:Nat) (N:Db) (h:DbAt w g b N) (hok:DbOk N):Calls Tryz.prog 56 #[.pointer (some ⟨g,0,none⟩)] w (DAllPost w N):=by
 have O:=dorigins_any w g b N h
 have hlen:=orgs_len N
 have hfin:Hid (∀ w' A c ls B d,AllAt w w' N B d (orgs N).length (.slice A (orgs N).length c) ls → DAllPost w N (.returned (.slice A (orgs N).length c)) w'):=fun w' A c ls B d T=>⟨A,c,ls,rfl,T.own,by rw [T.la,List.take_of_length_le (by simp [allN])],T.ok,T.bel⟩
 obtain ⟨n,hn⟩:∃ n,(orgs N).length = n:=⟨_,rfl⟩
 rw [hn] at O hlen hfin
 replace O:=Lib.hid O
 replace hok:=Lib.hid hok
 replace hn:=Lib.hid hn
 replace h:=Lib.hid h
 go_enter Tryz.func56,Tryz.ntmps56
 go_wp2_with fail
 (with_reducible refine (O.out).mono ?_)
 rintro e w1 ⟨B,d,rfl,o14,hb⟩
 have hT:Hid (AllAt w w1 N B d 0 (.slice none 0 0) []):=⟨by rw [hn.out]; exact o14,World.ownsRow_nil _ _ _ _,by simp [laL],by simp,hb⟩
 clear O o14 hb
 go_wp2_with fail
 go_loopw [3,9] (fun v3 v9 wr=>∃ (k:Nat) (A:Option Addr) (c:Nat) (ls:List Lx),v9 = .int .i64 k ∧ v3 = .slice A k c ∧ k ≤ n ∧ Hid (AllAt w wr N B d k (.slice A k c) ls)) (fun _ v9 _=>n - (intOf v9).toNat)
 case atStart=>exact ⟨0,none,0,[],rfl,rfl,by omega,hT⟩
 case round =>
  clear hT
  obtain ⟨k,A,c,ls,rfl,rfl,hk,hT⟩:=hrel
  by_cases hkn:k < n
  ·have hkl:k < (orgs N).length:=by rw [hn.out]; exact hkn
   have hm1:=(orgs_mem (N:=N) (orgs N)[k]).1 (List.getElem_mem hkl)
   have T:=hT.out
   have og:=T.og
   rw [hn.out] at og
   obtain ⟨b14,off14,rfl,hz14⟩:=rd_at (own_slice og) (by simp only [List.length_map]; omega)
   have z14:=hz14 k _ (by rw [List.getElem?_map,List.getElem?_eq_getElem hkl]; rfl)
   obtain ⟨q,hq⟩:=Int.eq_ofNat_of_zero_le hm1.1.1
   rw [hq] at hm1 z14
   rw [Int.toNat_natCast] at hm1
   have hq64:q < 64:=by have:=hm1.1.2; omega
   obtain ⟨x,hNq⟩:=Option.isSome_iff_exists.1 hm1.2
   have hgx:getX (N (orgs N)[k].toNat) = x.x:=by rw [hq,Int.toNat_natCast,hNq]; rfl
   have hd:=h.out.below T.bel
   obtain ⟨A1,c1,B1,d1,L1,la1⟩:=hd.el hq64 hNq
   have hf:=hok.out.few q x hNq
   have x0:=hd.cell
   have K1:=L1 wr (Below.refl _ _)
   have FL1:=hd_field x.x A1 c1 B1 d1 x.l
   have CL:=dclone_any wr _ x.x la1 hf.1 hf.2
   unfold hdV at K1 FL1
   obtain ⟨y,hy⟩:∃ y,x.x = y:=⟨_,rfl⟩
   rw [hy] at K1 FL1 CL hgx
   replace CL:=Lib.hid CL
   replace hgx:=Lib.hid hgx
   clear hd og hz14 hm1 hq hNq L1 la1 hf hy hT
   replace T:=Lib.hid T
   go_wp2_with fail
   (with_reducible refine (CL.out).mono ?_)
   rintro e w2 ⟨v2,rfl,hown,hb⟩
   clear z14 x0 K1 FL1 CL
   have hown':LaOwn w2 w.heap.size v2 y:=hown.mono' T.out.bel.size
   replace T:=T.out.below hb
   obtain ⟨A5,c5,B5,d5,hv5⟩:=hown'.at.form
   subst hv5
   have hb3:=below_new' w2 (.cells #[.int .i64 y.o,.int .i64 y.s,.int .i64 y.a,.bool y.ov,.slice A5 y.adj.length c5,.slice B5 y.pre.length d5] 41)
   have rd0:=Rd.lit w2 #[.int .i64 y.o,.int .i64 y.s,.int .i64 y.a,.bool y.ov,.slice A5 y.adj.length c5,.slice B5 y.pre.length d5] 41
   have T3:=T.below hb3
   have hown3:LxOwn _ w.heap.size ⟨y,A5,c5,B5,d5⟩:=LaOwn.below hown' hb3
   have hsz:=T3.bel.size
   have o3:=T3.own
   clear hown hown' hb hb3 T
   replace T3:=Lib.hid T3
   replace hown3:=Lib.hid hown3
   go_wp2_with (at_builtin; refine wpList_appB rfl laT (.tmp 13) (.tmp 22) rfl w.heap.size rfl o3 (m:=1) rfl (by simp) rd0 (lxL_one ⟨y,A5,c5,B5,d5⟩) (by simp only [maxLen]; omega) (by omega) hsz (k + 1) _ rfl rfl ?_; intro v6 w6 o6 hbel6 hg6 hv6)
   obtain ⟨A7,c7,rfl,-⟩:=own_rd o6
   have T4:=Lib.hid (T3.out.app hown3.out hkl hgx.out.symm o6 hbel6 hg6)
   clear o6 hbel6 hg6 hv6 o3 rd0 T3 hown3 hsz
   go_wp2_with fail
   go_round
   case rel=>exact ⟨k + 1,A7,c7,_,by go_num,rfl,by omega,T4⟩
   case measure=>simp [intOf]; omega
  ·obtain rfl:k = n:=by omega
   have hf:=hfin.out _ _ _ _ _ _ hT.out
   replace hf:=Lib.hid hf
   go_wp2_with fail
   go_ret
   exact hf.out
end Go.Proofs.YtehimhbgakpenaaGreat
