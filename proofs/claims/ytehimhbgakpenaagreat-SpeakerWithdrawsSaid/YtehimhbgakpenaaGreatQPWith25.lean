/-
  The texts Sp2, Sp3, Sp4, one after the other.
-/
import Derived.Test.YtehimhbgakpenaaGreatQPWith7
import Derived.Test.YtehimhbgakpenaaGreatQPWith21
import Derived.Test.YtehimhbgakpenaaGreatQPWith23
import Derived.Test.YtehimhbgakpenaaGreatQPWith24
import Derived.StillTailTactics
import Derived.Deep.DeepCutAuto
import Derived.Deep.CutBlock
import Derived.Deep.RegionLaw
namespace Go.Proofs.YtehimhbgakpenaaGreat
set_option linter.unusedVariables false
open Go.RowKit Go.Maps Go.Sort
abbrev Fn0:Fd.Fn:=fun _=>none
abbrev Db0:Db:=fun _=>none
theorem DbAt.kept0 {w w':World} {g b k:Nat} (h:DbAt w g b Db0) (hg:w.grownBy w' (some k)) (h1:g ≠ k) (h2:b ≠ k):DbAt w' g b Db0:=by
 obtain ⟨⟨M,hm,he⟩,hc⟩:=h
 refine ⟨⟨M,hm.kept hg (fun e=>by injection e with e; exact h2 e.symm),fun i hi=>?_⟩,?_⟩
 ·have:=he i hi
  match hM:M (i:Int) with
  | none=>trivial
  | some v=>rw [hM] at this; exact this.elim
 ·rw [World.cell?_of_block (a:=⟨g,0,none⟩) (hg.block g (World.block_lt_of_cell? _ _ hc) (fun e=>by injection e with e; exact h1 e))]
  exact hc
theorem flat_kept0 {w w':World} {g b k:Nat} {iv:Int} {f:Nat → Nat} (h:Fd.FlAt w g b iv Fn0 f) (hg:w.grownBy w' (some k)) (h1:g ≠ k) (h2:b ≠ k):Fd.FlAt w' g b iv Fn0 f:=by
 have e:=hg.block g (World.block_lt_of_cell? _ _ h.c0) (fun e=>by injection e with e; exact h1 e)
 exact ⟨(World.cell?_of_block (a:=⟨g,0,none⟩) e).trans h.c0,(World.cell?_of_block (a:=⟨g,1,none⟩) e).trans h.c1,h.nb.kept hg (fun e=>by injection e with e; exact h2 e.symm),fun i _ D hD=>(by cases hD),fun i _ hs=>(by cases hs),fun i j _ _ hs=>(by cases hs)⟩
end Go.Proofs.YtehimhbgakpenaaGreat

namespace Go.Proofs.YtehimhbgakpenaaGreat
set_option linter.unusedVariables false
open Go.RowKit Go.Maps Go.Sort
theorem own_keptB {w w':World} {base k:Nat} {e:TypeId} {size:Nat} {v:Value} {n:Nat} {xs:List Value} (h:w.ownsRow base e size v n xs) (hg:w.grownBy w' (some k)) (hk:k < base):w'.ownsRow base e size v n xs:=by
 refine own_rowNe h hg ?_
 rcases h.2 with ⟨rfl,_⟩ | ⟨g,cap,cur,rfl,hgb,_⟩
 ·exact .inl rfl
 ·right
  simp only [Value.ownBlock,ne_eq,Option.some.injEq]
  omega
theorem LaOwn.keptB {w w':World} {base k:Nat} {v:Value} {x:La} (h:LaOwn w base v x) (hg:w.grownBy w' (some k)) (hk:k < base):LaOwn w' base v x:=by
 obtain ⟨A,c,B,d,rfl,o1,o2,hu⟩:=h
 exact ⟨A,c,B,d,rfl,own_keptB o1 hg hk,own_keptB o2 hg hk,hu⟩
end Go.Proofs.YtehimhbgakpenaaGreat

namespace Go.Proofs.YtehimhbgakpenaaGreat
set_option linter.unusedVariables false
open Go.RowKit Go.Maps Go.Sort
structure Pt where
 l:Int
 o:Int
 c:Int
def ptL (p:Pt):List Value:=[.int .i64 p.l,.int .i64 p.o,.int .i64 p.c,.int .i64 0,.int .i64 0,.int .i64 0]
def ptV:List Pt → List Value
 | []=>[]
 | p :: r=>ptL p ++ ptV r
theorem ptV_append (a b:List Pt):ptV (a ++ b) = ptV a ++ ptV b:=by
 induction a with
 | nil=>rfl
 | cons p r ih=>simp only [List.cons_append,ptV,ih,List.append_assoc]
def laO (node:Int) (ov:Bool):La:=⟨node,1,0,ov,[],[]⟩
theorem laO_valid {node:Int} (h0:0 ≤ node) (h1:node ≤ 63) (ov:Bool):LaValid (laO node ov) :=
 ⟨⟨h0,h1⟩,⟨by simp [laO],by simp [laO]⟩,⟨by simp [laO],by simp [laO]⟩,by simp [laO],by simp [laO],by simp [laO],fun j y _ hy=>by simp [laO] at hy,fun j y _ hy=>by simp [laO] at hy⟩
theorem set_laO {node:Int} (h0:0 ≤ node) (h1:node ≤ 63) (ov:Bool):setP ⟨node,0,0,false,[],[]⟩ false ⟨0,0,0,ov,[],[]⟩ = ⟨laO node ov,true,true,0⟩:=by
 unfold setP
 rw [if_pos (vB_t (laO_valid h0 h1 ov):vB (num node 1 0 ⟨0,0,0,ov,[],[]⟩) = true),if_neg (by simp),if_neg (by simp)]
 rfl
theorem grownBy_below {w w':World} {k B:Nat} (hg:w.grownBy w' (some k)) (hk:B ≤ k) (hB:B ≤ w.heap.size):Below B w w' :=
 ⟨hg.os,hg.tape,hg.output,hg.size,fun j hj=>hg.block j (by omega) (fun e=>by injection e; omega)⟩
end Go.Proofs.YtehimhbgakpenaaGreat
