/-
  The texts Bcmp, New, NewR, LaC, one after the other.
-/
import Derived.Test.YtehimhbgakpenaaGreatQPWith1
import Derived.Lib.BytesEntry
import Derived.Test.YtehimhbgakpenaaGreatQPWith9
import Derived.Test.YtehimhbgakpenaaGreatQPWith14
import Derived.Test.YtehimhbgakpenaaGreatQPWith17
import Derived.Test.YtehimhbgakpenaaGreatQPWith18
import Derived.Deep.RegionLaw
import Derived.Deep.DeepCutAuto
import Derived.WalkLawsBesides
import Derived.Test.YtehimhbgakpenaaGreatQPWith15
import Derived.Test.YtehimhbgakpenaaGreatQPWith19
import Derived.Lib.QuietBelow
namespace Go.Proofs.YtehimhbgakpenaaGreat
set_option linter.unusedVariables false
open Go.RowKit
theorem intsOf (bs:List UInt8):Lib.bytesOf (bs.map fun b=>(b.toNat:Int)) = bs:=by
 induction bs with
 | nil=>rfl
 | cons b bs ih =>
   simp only [Lib.bytesOf,List.map_cons,List.map_map] at ih ⊢
   rw [ih]
   simp
theorem run_bytesOf {P:Program} (w:World) (A:Option Addr) (n c:Nat) (bs:List UInt8) (h:Bs w A bs) (hn:bs.length = n):(Extern.Bytes.bytesOf (.slice A n c)).run P w = .ok ⟨bs.toArray⟩ w:=by
 subst hn
 rcases A with _ | ad
 ·have:=Rd.nil_len h
  have e:bs = []:=by simpa using this
  subst e
  rfl
 ·have hl:=Lib.run_loadBytesX (P:=P) w (bs.map fun b=>(b.toNat:Int)) ad .empty (fun j x hj=>by
   rw [List.getElem?_map] at hj
   obtain ⟨b,hb,rfl⟩:=Option.map_eq_some_iff.1 hj
   obtain ⟨ad',e,hc⟩:=h (by rw [List.length_map]; have:=(List.getElem?_eq_some_iff.1 hb).1; omega)
   injection e with e
   subst e
   exact hc j _ (by rw [List.getElem?_map,hb]; rfl))
  rw [List.length_map,intsOf] at hl
  show (Extern.Bytes.loadBytes ad bs.length .empty).run P w = _
  rw [hl]
  congr 1
  apply ByteArray.ext
  show (#[]:Array UInt8) ++ bs.toArray = bs.toArray
  simp
theorem run_compareSlice {P:Program} (w:World) (A B:Option Addr) (n c m d:Nat) (xs ys:List UInt8) (hx:Bs w A xs) (hn:xs.length = n) (hy:Bs w B ys) (hm:ys.length = m) :
  (Extern.BytealgCompare.compare #[.slice A n c,.slice B m d]).run P w = .ok (.int .i64 (Lib.compareBytes xs ys)) w:=by
 change Sem.run P (do pure (goInt (Extern.BytealgCompare.cmp (← Extern.Bytes.bytesOf (.slice A n c)) (← Extern.Bytes.bytesOf (.slice B m d))))) w = _
 simp only [Sem.run_bind,Sem.run_pure,run_bytesOf w A n c xs hx hn,run_bytesOf w B m d ys hy hm,Result.andThen]
 rw [Lib.cmp_eq]
 rfl
set_option maxHeartbeats 1000000 in
set_option maxRecDepth 100000 in
theorem bcompare_any (w:World) (A B:Option Addr) (n c m d:Nat) (xs ys:List UInt8) (hx:Bs w A xs) (hn:xs.length = n) (hy:Bs w B ys) (hm:ys.length = m) :
  Calls Tryz.prog 180 #[.slice A n c,.slice B m d] w fun e w'=>e = .returned (.int .i64 (Lib.compareBytes xs ys)) ∧ w = w':=by
 have R:=run_compareSlice (P:=Tryz.prog) w A B n c m d xs ys hx hn hy hm
 go_enter Tryz.func180,Tryz.ntmps180
 go_wp2
 rw [run_callFunc_extern Tryz.func196 (by kernel_rfl) (by kernel_rfl) (by kernel_rfl) (e:=Extern.BytealgCompare.compare) (by kernel_rfl),R]
 simp only [Result.andThen]
 rw [Oper.upon_value]
 go_wp2
 go_ret
 exact ⟨rfl,rfl⟩
end Go.Proofs.YtehimhbgakpenaaGreat

namespace Go.Proofs.YtehimhbgakpenaaGreat
set_option linter.unusedVariables false
open Go.RowKit
theorem own_slice' {w:World} {base:Nat} {e:TypeId} {size:Nat} {A:Option Addr} {n c:Nat} {xs:List Value} (h:w.ownsRow base e size (.slice A n c) n xs):Rd w A xs:=by
 obtain ⟨A',c',e,r,_⟩:=own_rd h
 simp only [Value.slice.injEq,true_and] at e
 obtain ⟨rfl,rfl⟩:=e
 exact r
def age0 (x:La):La:={ x with a:=0 }
noncomputable def newI (x y:La):Int :=
 if vB x = true ∧ vB y = true then
  if x.s = y.s then if (x.a == 3600) = (y.a == 3600) then Lib.compareBytes (laEnc (age0 x)) (laEnc (age0 y)) else if (x.a == 3600) = true then 1 else -1
  else cmpI x.s y.s
 else 0
theorem age0_valid {x:La} (h:LaValid x):LaValid (age0 x):=by
 obtain ⟨h1,h2,h3,h4,h5,h6,h7,h8⟩:=h
 exact ⟨h1,h2,⟨by simp [age0],by simp [age0]⟩,h4,h5,fun e=>by simp [age0] at e,h7,h8⟩
set_option maxRecDepth 100000 in
set_option maxHeartbeats 6400000 in
theorem lnewer_any (w:World) (v u:Value) (x y:La) (hx:LaAt w v x) (hy:LaAt w u y):Calls Tryz.prog 149 #[v,u] w fun e w'=>e = .returned (.int .i64 (newI x y)) ∧ Below w.heap.size w w':=by
 obtain ⟨A,c,B,d,rfl,rA,rB,h1,h2,h3,h4,hu⟩:=hx
 obtain ⟨A',c',B',d',rfl,rA',rB',h1',h2',h3',h4',hu'⟩:=hy
 unfold maxLen at h2 h4 h2' h4'
 have S:=((((((St.start w).read rB').read rA').read rB).read rA).new' #[.int .i64 x.o,.int .i64 x.s,.int .i64 x.a,.bool x.ov,.slice A x.adj.length c,.slice B x.pre.length d] 41 w.heap.size _ rfl rfl).new' #[.int .i64 y.o,.int .i64 y.s,.int .i64 y.a,.bool y.ov,.slice A' y.adj.length c',.slice B' y.pre.length d'] 41 (w.heap.size + 1) _ (by simp) rfl
 have VX:=fun W (hb:Below w.heap.size w W)=>valid_any x.o x.s x.a x.ov x.adj x.pre A _ c B _ d W rfl rfl (rA.below hb) (rB.below hb) hu
 have VY:=fun W (hb:Below w.heap.size w W)=>valid_any y.o y.s y.a y.ov y.adj y.pre A' _ c' B' _ d' W rfl rfl (rA'.below hb) (rB'.below hb) hu'
 rw [show (⟨x.o,x.s,x.a,x.ov,x.adj,x.pre⟩:La) = x from rfl] at VX
 rw [show (⟨y.o,y.s,y.a,y.ov,y.adj,y.pre⟩:La) = y from rfl] at VY
 have EX:=fun W (hb:Below w.heap.size w W)=>lencode_any x.o x.s 0 x.ov x.adj x.pre A _ c B _ d W rfl rfl (rA.below hb) (rB.below hb) hu
 have EY:=fun W (hb:Below w.heap.size w W)=>lencode_any y.o y.s 0 y.ov y.adj y.pre A' _ c' B' _ d' W rfl rfl (rA'.below hb) (rB'.below hb) hu'
 rw [show (⟨x.o,x.s,0,x.ov,x.adj,x.pre⟩:La) = age0 x from rfl] at EX
 rw [show (⟨y.o,y.s,0,y.ov,y.adj,y.pre⟩:La) = age0 y from rfl] at EY
 have c0:=S.c 1 0 rfl rfl
 have c1:=S.c 1 1 rfl rfl
 have c2:=S.c 1 2 rfl rfl
 have c3:=S.c 1 3 rfl rfl
 have c4:=S.c 1 4 rfl rfl
 have c5:=S.c 1 5 rfl rfl
 clear rA rB rA' rB'
 have hlx:vB x = true → lencB (age0 x) = laEnc (age0 x):=fun h=>by unfold lencB; rw [vB_t (age0_valid (vB_iff.1 h))]; rfl
 have hly:vB y = true → lencB (age0 y) = laEnc (age0 y):=fun h=>by unfold lencB; rw [vB_t (age0_valid (vB_iff.1 h))]; rfl
 unfold newI
 generalize laEnc (age0 x) = ex at *
 generalize laEnc (age0 y) = ey at *
 generalize lencE (age0 x) = ex0 at *
 generalize lencE (age0 y) = ey0 at *
 generalize lencB (age0 x) = lx at *
 generalize lencB (age0 y) = ly at *
 generalize hbx:vB x = bx at *
 generalize hby:vB y = by' at *
 clear hbx hby
 generalize x.adj.length = n at *
 generalize x.pre.length = m at *
 generalize y.adj.length = n' at *
 generalize y.pre.length = m' at *
 obtain ⟨o,s,a,ov,adj,pre⟩:=x
 obtain ⟨o',s',a',ov',adj',pre'⟩:=y
 simp only at *
 have VX1:=VX _ S.b
 replace VX1:=Lib.hid VX1
 replace VX:=Lib.hid VX
 replace VY:=Lib.hid VY
 replace EX:=Lib.hid EX
 replace EY:=Lib.hid EY
 replace hlx:=Lib.hid hlx
 replace hly:=Lib.hid hly
 clear hu hu'
 cases bx with
 | false =>
   rw [if_neg (by simp)]
   go_enter Tryz.func149,Tryz.ntmps149
   go_wp2_with fail
   (with_reducible refine VX1.out.mono ?_)
   rintro e w2 ⟨rfl,hb⟩
   replace S:=S.call hb
   clear c0 c1 c2 c3 c4 c5 VX1
   go_wp2_with fail
   go_ret
   exact ⟨rfl,S.b⟩
 | true =>
 obtain ⟨r,hr⟩:∃ r:Int,(if true = true ∧ by' = true then (if s = s' then (if (a == 3600) = (a' == 3600) then Lib.compareBytes ex ey else if (a == 3600) = true then (1:Int) else -1) else cmpI s s') else 0) = r:=⟨_,rfl⟩
 rw [hr]
 replace hr:=Lib.hid hr
 go_enter Tryz.func149,Tryz.ntmps149
 go_wp2_with fail
 (with_reducible refine VX1.out.mono ?_)
 rintro e w2 ⟨rfl,hb⟩
 replace S:=S.call hb
 clear c0 c1 c2 c3 c4 c5 VX1 hb
 have d0:=S.c 0 0 rfl rfl
 have d1:=S.c 0 1 rfl rfl
 have d2:=S.c 0 2 rfl rfl
 have d3:=S.c 0 3 rfl rfl
 have d4:=S.c 0 4 rfl rfl
 have d5:=S.c 0 5 rfl rfl
 have VY1:=VY.out _ S.b
 replace VY1:=Lib.hid VY1
 go_wp2_with fail
 (with_reducible refine VY1.out.mono ?_)
 rintro e w3 ⟨rfl,hb⟩
 replace S:=S.call hb
 clear d0 d1 d2 d3 d4 d5 VY1 hb VX VY
 cases by' with
 | false =>
   obtain rfl:0 = r:=by have:=hr.out; rwa [if_neg (by simp)] at this
   go_wp2_with fail
   go_ret
   exact ⟨rfl,S.b⟩
 | true =>
 have hr2:=hr.out
 rw [if_pos (by simp)] at hr2
 clear hr
 have c1:=S.c 1 1 rfl rfl
 have d1:=S.c 0 1 rfl rfl
 by_cases hs:s = s'
 rotate_left
 ·rw [if_neg hs] at hr2
  replace hr2:=Lib.hid hr2
  have e2:(s != s') = true:=by simpa using hs
  clear hs
  go_wp2_with fail
  (with_reducible refine (cmpint_any _ _ _).mono ?_)
  rintro e w4 ⟨rfl,rfl⟩
  go_wp2_with fail
  go_ret
  exact ⟨ret_int hr2.out,S.b⟩
 subst hs
 rw [if_pos rfl] at hr2
 obtain ⟨pa,hpa⟩:∃ z,(a == 3600) = z:=⟨_,rfl⟩
 obtain ⟨pb,hpb⟩:∃ z,(a' == 3600) = z:=⟨_,rfl⟩
 rw [hpa,hpb] at hr2
 have c2:=S.c 1 2 rfl rfl
 have d2:=S.c 0 2 rfl rfl
 by_cases hp:pa = pb
 rotate_left
 ·rw [if_neg hp] at hr2
  cases pa
  all_goals
   cases pb
   all_goals
    first
    | exact absurd rfl hp
    | skip
  ·obtain rfl:-1 = r:=by simpa using hr2
   clear hp hr2
   go_wp2_with fail
   go_quiet (fail)
   go_wp2_with fail
   go_ret
   exact ⟨rfl,below_drewN S.b nq⟩
  ·obtain rfl:1 = r:=by simpa using hr2
   clear hp hr2
   go_wp2_with fail
   go_quiet (fail)
   go_wp2_with fail
   go_ret
   exact ⟨rfl,below_drewN S.b nq⟩
 subst hp
 rw [if_pos rfl] at hr2
 replace hr2:=Lib.hid hr2
 go_wp2_with fail
 go_quiet (fail)
 replace S:=S.drewN nq
 generalize w3.drewN nq = w4 at *
 clear c1 d1 c2 d2 hpa hpb
 obtain rfl:=hlx.out trivial
 obtain rfl:=hly.out trivial
 clear hlx hly
 have c0:=S.c 1 0 rfl rfl
 have c1:=S.c 1 1 rfl rfl
 have c2:=S.c 1 2 rfl rfl
 have c3:=S.c 1 3 rfl rfl
 have c4:=S.c 1 4 rfl rfl
 have c5:=S.c 1 5 rfl rfl
 have d2:=S.c 0 2 rfl rfl
 have f2:=S.f 1 2 rfl rfl
 have g2:=S.f 0 2 rfl rfl
 have S2:=(S.set 1 2 (.int .i64 0) (g:=w.heap.size) rfl (by simp) (Nat.le_refl _) (by simp) _ rfl).set 0 2 (.int .i64 0) (g:=w.heap.size + 1) rfl (by simp) (by omega) (by simp) _ rfl
 have EX1:=EX.out _ S2.b
 replace EX1:=Lib.hid EX1
 go_wp2_with fail
 (with_reducible refine EX1.out.mono ?_)
 rintro e w5 ⟨v5,rfl,hown5,hb⟩
 replace S2:=S2.call hb
 clear c0 c1 c2 c3 c4 c5 d2 f2 g2 EX1 hb S
 obtain ⟨A5,a5,rfl,_,_,_⟩:=own_rd hown5
 have d0:=S2.c 0 0 rfl rfl
 have d1:=S2.c 0 1 rfl rfl
 have d2:=S2.c 0 2 rfl rfl
 have d3:=S2.c 0 3 rfl rfl
 have d4:=S2.c 0 4 rfl rfl
 have d5:=S2.c 0 5 rfl rfl
 have EY1:=EY.out _ S2.b
 replace EY1:=Lib.hid EY1
 go_wp2_with fail
 (with_reducible refine EY1.out.mono ?_)
 rintro e w6 ⟨v6,rfl,hown6,hb⟩
 replace S2:=S2.call hb
 have hown5:=own_below hown5 hb
 clear d0 d1 d2 d3 d4 d5 EY1 hb EX EY
 obtain ⟨A6,a6,rfl,_,_,_⟩:=own_rd hown6
 have BC:=bcompare_any w6 A5 A6 _ a5 _ a6 lx ly (own_slice' hown5) rfl (own_slice' hown6) rfl
 replace BC:=Lib.hid BC
 go_wp2_with fail
 (with_reducible refine BC.out.mono ?_)
 rintro e w7 ⟨rfl,rfl⟩
 go_wp2_with fail
 go_ret
 exact ⟨ret_int hr2.out,S2.b⟩
end Go.Proofs.YtehimhbgakpenaaGreat

namespace Go.Proofs.YtehimhbgakpenaaGreat
set_option linter.unusedVariables false
open Go.RowKit
theorem less_cmp:∀ (a b:List UInt8),Op.bytesLess a b = (Lib.compareBytes a b == -1)
 | [],[]=>rfl
 | [],_ :: _=>rfl
 | _ :: _,[]=>rfl
 | x :: a,y :: b=>by
   unfold Op.bytesLess Lib.compareBytes
   by_cases h1:x < y
   ·simp [h1]
   ·by_cases h2:y < x
    ·have:x ≠ y:=fun e=>by subst e; exact absurd h2 (UInt8.lt_irrefl x)
     simp [h1,h2,this]
    ·have e:x = y:=UInt8.le_antisymm (UInt8.not_lt.1 h2) (UInt8.not_lt.1 h1)
     subst e
     simp [less_cmp a b]
theorem cmp_bd:∀ (a b:List UInt8),Lib.compareBytes a b = -1 ∨ Lib.compareBytes a b = 0 ∨ Lib.compareBytes a b = 1
 | [],[]=>by simp [Lib.compareBytes]
 | [],_ :: _=>by simp [Lib.compareBytes]
 | _ :: _,[]=>by simp [Lib.compareBytes]
 | x :: a,y :: b=>by
   unfold Lib.compareBytes
   have:=cmp_bd a b
   split
   ·simp
   ·split
    ·simp
    ·exact this
end Go.Proofs.YtehimhbgakpenaaGreat

namespace Go.Proofs.YtehimhbgakpenaaGreat
set_option linter.unusedVariables false
open Go.RowKit
theorem valid_at (w:World) (v:Value) (x:La) (h:LaAt w v x):Calls Tryz.prog 126 #[v] w fun e w'=>e = .returned (.bool (vB x)) ∧ Below w.heap.size w w':=by
 obtain ⟨A,c,B,d,rfl,rA,rB,h1,h2,h3,h4,hu⟩:=h
 exact valid_any x.o x.s x.a x.ov x.adj x.pre A _ c B _ d w rfl rfl rA rB hu
def EncPost (w:World) (x:La) (e:Ending) (w':World):Prop :=
 ∃ A c,e = .returned (.tuple #[.slice A (lencB x).length c,.int .i64 (lencE x)]) ∧ w'.ownsRow w.heap.size 5 1 (.slice A (lencB x).length c) (lencB x).length ((lencB x).map u8v) ∧ Below w.heap.size w w'
theorem enc_at (w:World) (v:Value) (x:La) (h:LaAt w v x):Calls Tryz.prog 124 #[v] w (EncPost w x):=by
 obtain ⟨A,c,B,d,rfl,rA,rB,h1,h2,h3,h4,hu⟩:=h
 refine (lencode_any x.o x.s x.a x.ov x.adj x.pre A _ c B _ d w rfl rfl rA rB hu).mono ?_
 rintro e w' ⟨v,he,hown,hb⟩
 obtain ⟨A',c',rfl,_⟩:=own_rd hown
 exact ⟨A',c',he,hown,hb⟩
theorem LaAt.ok {w:World} {v:Value} {x:La} (h:LaAt w v x):∀ p ∈ x.pre,p.1 < 4294967296:=by
 obtain ⟨A,c,B,d,_,_,_,_,_,_,_,hu⟩:=h
 exact hu
theorem LaAt.form {w:World} {v:Value} {x:La} (h:LaAt w v x):∃ A c B d,v = laV x.o x.s x.a x.ov A x.adj.length c B x.pre.length d:=by
 obtain ⟨A,c,B,d,hv,_⟩:=h
 exact ⟨A,c,B,d,hv⟩
theorem LaAt.open {w:World} {v:Value} {x:La} (h:LaAt w v x):∃ A c B d,v = laV x.o x.s x.a x.ov A x.adj.length c B x.pre.length d ∧ Hid (∀ W',Below w.heap.size w W' → LaAt W' (laV x.o x.s x.a x.ov A x.adj.length c B x.pre.length d) x):=by
 obtain ⟨A,c,B,d,hv⟩:=h.form
 subst hv
 exact ⟨A,c,B,d,rfl,fun W' hb=>h.below hb⟩
theorem LaOwn.open {w:World} {base:Nat} {v:Value} {x:La} (h:LaOwn w base v x):∃ A c B d,v = laV x.o x.s x.a x.ov A x.adj.length c B x.pre.length d ∧ Hid (∀ W',Below w.heap.size w W' → LaAt W' (laV x.o x.s x.a x.ov A x.adj.length c B x.pre.length d) x):=h.at.open
theorem St.lt {W w:World} {bs:List (Nat × List Value)} {rs:List (Option Addr × List Value)} (S:St W w bs rs) (i:Nat) {g:Nat} {cs:List Value} (hi:bs[i]? = some (g,cs)) (hn:0 < cs.length):g < w.heap.size:=(S.box i hi).lt hn
theorem LaAt.renum {w:World} {o s a:Int} {ov:Bool} {A:Option Addr} {n c:Nat} {B:Option Addr} {m d:Nat} {x:La} (h:LaAt w (laV o s a ov A n c B m d) x) (o' s' a':Int) (ov':Bool) :
  LaAt w (laV o' s' a' ov' A n c B m d) ⟨o',s',a',ov',x.adj,x.pre⟩:=by
 obtain ⟨A9,c9,B9,d9,e9,r1,r2,l1,l2,l3,l4,hu⟩:=h
 simp only [laV,Value.agg.injEq,Array.mk.injEq,List.cons.injEq,Value.slice.injEq,and_true] at e9
 obtain ⟨_,_,_,_,⟨rfl,rfl,rfl⟩,rfl,rfl,rfl⟩:=e9
 exact ⟨_,_,_,_,rfl,r1,r2,l1,l2,l3,l4,hu⟩
theorem LaAt.opened {w:World} {v:Value} {x:La} (h:LaAt w v x):∃ A c B d,v = laV x.o x.s x.a x.ov A x.adj.length c B x.pre.length d ∧ LaAt w (laV x.o x.s x.a x.ov A x.adj.length c B x.pre.length d) x:=by
 obtain ⟨A,c,B,d,hv⟩:=h.form
 subst hv
 exact ⟨A,c,B,d,rfl,h⟩
end Go.Proofs.YtehimhbgakpenaaGreat
