/-
  The texts Tp, TpArg, TpV, Sp1, one after the other.
-/
import Derived.Test.YtehimhbgakpenaaGreatQPWith6
import Derived.Test.YtehimhbgakpenaaGreatQPWith5
import Derived.Deep.DeepCutAuto
import Derived.Deep.CutBlock
namespace Go.Proofs.YtehimhbgakpenaaGreat
set_option linter.unusedVariables false
open Go.RowKit Go.Sort
structure Lk where
 a:Int
 b:Int
 c:Int
 d:Int
 cap:Int
 del:Int
 grp:Int
def lkL (x:Lk):List Value:=[.int .i64 x.a,.int .i64 x.b,.int .i64 x.c,.int .i64 x.d,.int .i64 x.cap,.int .i64 x.del,.int .i64 x.grp]
def lksV:List Lk → List Value
 | []=>[]
 | x :: l=>lkL x ++ lksV l
def boV (l:List Bool):List Value:=l.map .bool
structure Tp where
 n:Int
 ov:List Bool
 ln:List Lk
abbrev tpV (n:Int) (A:Option Addr) (k c:Nat) (B:Option Addr) (m d:Nat):Value:=.agg #[.int .i64 n,.slice A k c,.slice B m d]
def TpAt (w:World) (v:Value) (t:Tp):Prop:=∃ A c B d,v = tpV t.n A t.ov.length c B t.ln.length d ∧ Rd w A (boV t.ov) ∧ Rd w B (lksV t.ln) ∧ t.ov.length ≤ maxLen ∧ t.ln.length ≤ maxLen
theorem TpAt.below {w w':World} {v:Value} {t:Tp} (h:TpAt w v t) (hb:Below w.heap.size w w'):TpAt w' v t:=by
 obtain ⟨A,c,B,d,rfl,h1,h2,h3⟩:=h
 exact ⟨A,c,B,d,rfl,h1.below hb,h2.below hb,h3⟩
theorem lksV_len (l:List Lk):(lksV l).length = l.length * 7:=by
 induction l with
 | nil=>rfl
 | cons r l ih=>simp only [lksV,lkL,List.length_append,List.length_cons,List.length_nil,ih]; omega
theorem boV_len (l:List Bool):(boV l).length = l.length:=by simp [boV]
theorem lksV_append (a b:List Lk):lksV (a ++ b) = lksV a ++ lksV b:=by
 induction a with
 | nil=>rfl
 | cons r a ih=>simp only [List.cons_append,lksV,ih,List.append_assoc]
theorem lkL_one (x:Lk):∀ u ∈ lkL x,u.oneCell' = true:=by
 intro u hu
 simp only [lkL,List.mem_cons,List.not_mem_nil,or_false] at hu
 rcases hu with rfl | rfl | rfl | rfl | rfl | rfl | rfl <;> rfl
theorem lksV_one (l:List Lk):∀ u ∈ lksV l,u.oneCell' = true:=by
 induction l with
 | nil=>simp [lksV]
 | cons r l ih =>
   intro u hu
   simp only [lksV,List.mem_append] at hu
   rcases hu with hu | hu
   ·exact lkL_one r u hu
   ·exact ih u hu
theorem boV_one (l:List Bool):∀ u ∈ boV l,u.oneCell' = true:=by
 intro u hu
 obtain ⟨b,_,rfl⟩:=List.mem_map.1 hu
 rfl
theorem lksV_get (l:List Lk):∀ (k:Nat) (hk:k < l.length) (j:Nat) (hj:j < 7),(lksV l)[7 * k + j]? = (lkL l[k])[j]?:=by
 induction l with
 | nil=>intro k hk; simp at hk
 | cons r l ih =>
   intro k hk j hj
   have h8:(lkL r).length = 7:=rfl
   cases k with
   | zero=>simp only [lksV,List.getElem_cons_zero]; rw [List.getElem?_append_left (by omega)]; simp
   | succ k =>
     simp only [lksV,List.getElem_cons_succ]
     rw [List.getElem?_append_right (by omega),h8,show 7 * (k + 1) + j - 7 = 7 * k + j by omega]
     exact ih k (by simpa using hk) j hj
structure LkC (w:World) (b o:Nat) (x:Lk):Prop where
 c0:w.cell? ⟨b,o,none⟩ = some (.int .i64 x.a)
 c1:w.cell? ⟨b,o + 1,none⟩ = some (.int .i64 x.b)
 c2:w.cell? ⟨b,o + 2,none⟩ = some (.int .i64 x.c)
 c3:w.cell? ⟨b,o + 2 + 1,none⟩ = some (.int .i64 x.d)
 c3':w.cell? ⟨b,o + 3,none⟩ = some (.int .i64 x.d)
 c4:w.cell? ⟨b,o + 4,none⟩ = some (.int .i64 x.cap)
 c5:w.cell? ⟨b,o + 5,none⟩ = some (.int .i64 x.del)
 c6:w.cell? ⟨b,o + 6,none⟩ = some (.int .i64 x.grp)
theorem rd_lk {w:World} {A:Option Addr} {l:List Lk} (h:Rd w A (lksV l)) (hn:0 < l.length) :
  ∃ b off,A = some ⟨b,off,none⟩ ∧ ∀ k (hk:k < l.length),LkC w b (off + k * 7) l[k]:=by
 obtain ⟨b,off,e,hc⟩:=rd_at h (by rw [lksV_len]; omega)
 have key:∀ k (hk:k < l.length) j (u:Value),j < 7 → (lkL l[k])[j]? = some u → w.cell? ⟨b,off + k * 7 + j,none⟩ = some u:=fun k hk j u hj hu=>by
  rw [Nat.add_assoc]
  exact hc _ _ (by rw [Nat.mul_comm k 7,lksV_get l k hk j hj]; exact hu)
 exact ⟨b,off,e,fun k hk=>⟨key k hk 0 _ (by omega) rfl,key k hk 1 _ (by omega) rfl,key k hk 2 _ (by omega) rfl,key k hk 3 _ (by omega) rfl,key k hk 3 _ (by omega) rfl,key k hk 4 _ (by omega) rfl,key k hk 5 _ (by omega) rfl,key k hk 6 _ (by omega) rfl⟩⟩
theorem rd_bo {w:World} {A:Option Addr} {l:List Bool} (h:Rd w A (boV l)) (hn:0 < l.length) :
  ∃ b off,A = some ⟨b,off,none⟩ ∧ ∀ k (hk:k < l.length),w.cell? ⟨b,off + k,none⟩ = some (.bool l[k]):=by
 obtain ⟨b,off,e,hc⟩:=rd_at h (by rw [boV_len]; omega)
 exact ⟨b,off,e,fun k hk=>hc k _ (by simp [boV,List.getElem?_eq_getElem hk])⟩
structure LkOk (n:Int) (x:Lk):Prop where
 a:0 ≤ x.a ∧ x.a < n
 b:0 ≤ x.b ∧ x.b < n
 ne:x.a ≠ x.b
 c:1 ≤ x.c ∧ x.c ≤ 65535
 d:1 ≤ x.d ∧ x.d ≤ 65535
 cap:0 ≤ x.cap ∧ x.cap ≤ 1048576
 del:1 ≤ x.del ∧ x.del ≤ 65536
 grp:0 ≤ x.grp ∧ x.grp ≤ 64
structure TpOk (t:Tp):Prop where
 n:1 ≤ t.n ∧ t.n ≤ 64
 ov:t.ov.length = 0 ∨ (t.ov.length:Int) = t.n
 ln:t.ln.length ≤ 256
 all:∀ x ∈ t.ln,LkOk t.n x
open Classical in
noncomputable def tB (t:Tp):Bool:=decide (TpOk t)
open Classical in
theorem tB_t {t:Tp} (h:TpOk t):tB t = true:=by unfold tB; exact decide_eq_true h
open Classical in
theorem tB_f {t:Tp} (h:¬ TpOk t):tB t = false:=by unfold tB; exact decide_eq_false h
theorem tB_iff {t:Tp}:tB t = true ↔ TpOk t:=by unfold tB; simp
set_option maxHeartbeats 800000 in
theorem twithin_any (n l m:Int) (w:World):Calls Tryz.prog 72 #[.int .i64 n,.int .i64 l,.int .i64 m] w fun e w'=>e = .returned (.bool (wiB n l m)) ∧ w = w':=by
 by_cases h1:l ≤ n
 ·have e:wiB n l m = decide (n ≤ m):=by simp [wiB,h1]
  rw [e]; clear e
  go_enter Tryz.func72,Tryz.ntmps72
  go_wp2_with fail
  all_goals (first | done | go_ret)
  all_goals exact ⟨rfl,rfl⟩
 ·have e:wiB n l m = false:=by simp [wiB,h1]
  rw [e]; clear e
  go_enter Tryz.func72,Tryz.ntmps72
  go_wp2_with fail
  all_goals (first | done | go_ret)
  all_goals exact ⟨rfl,rfl⟩
set_option maxHeartbeats 800000 in
theorem rtwithin_any (n l m:Int) (w:World):Calls Tryz.prog 71 #[.int .i64 n,.int .i64 l,.int .i64 m] w fun e w'=>e = .returned (.bool (wiB n l m)) ∧ w = w':=by
 by_cases h1:l ≤ n
 ·have e:wiB n l m = decide (n ≤ m):=by simp [wiB,h1]
  rw [e]; clear e
  go_enter Tryz.func71,Tryz.ntmps71
  go_wp2_with fail
  all_goals (first | done | go_ret)
  all_goals exact ⟨rfl,rfl⟩
 ·have e:wiB n l m = false:=by simp [wiB,h1]
  rw [e]; clear e
  go_enter Tryz.func71,Tryz.ntmps71
  go_wp2_with fail
  all_goals (first | done | go_ret)
  all_goals exact ⟨rfl,rfl⟩
def ndB (n i:Int):Bool:=decide (0 ≤ i) && decide (i < n)
theorem ndB_t {n i:Int} (h:ndB n i = true):0 ≤ i ∧ i < n:=by simpa [ndB] using h
theorem ndB_f {n i:Int} (h:ndB n i = false):¬ (0 ≤ i ∧ i < n):=fun h2=>by simp [ndB,h2.1,h2.2] at h
set_option maxHeartbeats 800000 in
theorem node_any (n i:Int) (u1 u2:Value) (h1:u1.oneCell' = true) (h2:u2.oneCell' = true) (w:World):Calls Tryz.prog 32 #[.agg #[.int .i64 n,u1,u2],.int .i64 i] w fun e w'=>e = .returned (.bool (ndB n i)) ∧ Below w.heap.size w w':=by
 have hbb:=below_new' w (.cells #[.int .i64 n,u1,u2] 25)
 have S:=Box.new w #[.int .i64 n,u1,u2] 25
 have c0:=S.c 0 rfl
 by_cases h1:0 ≤ i
 ·have e:ndB n i = decide (i < n):=by simp [ndB,h1]
  rw [e]; clear e S
  go_enter Tryz.func32,Tryz.ntmps32
  go_wp2_with fail
  all_goals (first | done | go_ret)
  all_goals exact ⟨rfl,hbb⟩
 ·have e:ndB n i = false:=by simp [ndB,h1]
  rw [e]; clear e S
  go_enter Tryz.func32,Tryz.ntmps32
  go_wp2_with fail
  all_goals (first | done | go_ret)
  all_goals exact ⟨rfl,hbb⟩
set_option maxHeartbeats 800000 in
theorem arcs_any (n:Int) (u1:Value) (B:Option Addr) (m d:Nat) (w:World) (hm:m ≤ 1000000):Calls Tryz.prog 75 #[.agg #[.int .i64 n,u1,.slice B m d]] w fun e w'=>e = .returned (.int .i64 ((2 * m:Nat):Int)) ∧ Below w.heap.size w w':=by
 have hbb:=below_new' w (.cells #[.int .i64 n,u1,.slice B m d] 25)
 have S:=Box.new w #[.int .i64 n,u1,.slice B m d] 25
 have c2:=S.c 2 rfl
 clear S
 go_enter Tryz.func75,Tryz.ntmps75
 go_wp2_with fail
 go_ret
 exact ⟨by simp,hbb⟩
theorem boT:ElemT Tryz.prog 22 4 (.bool false) 1 1:=⟨Tryz.underlying22,by kernel_rfl,rfl,by omega⟩
theorem lkT:ElemT Tryz.prog 23 79 (.agg #[.int .i64 0,.int .i64 0,.int .i64 0,.int .i64 0,.int .i64 0,.int .i64 0,.int .i64 0]) 7 56:=⟨Tryz.underlying23,by kernel_rfl,rfl,by omega⟩
set_option maxRecDepth 100000 in
set_option maxHeartbeats 800000 in
theorem clone_bo (w:World) (A:Option Addr) (n c:Nat) (l:List Bool) (hr:Rd w A (boV l)) (hn:l.length = n) (hb:n ≤ 1000000) :
  Calls Tryz.prog 73 #[.slice A n c] w (ClonePost w 4 1 n (boV l)):=by
 rcases A with _ | ad
 ·have h0:=hr.nil_len
  rw [boV_len] at h0
  obtain rfl:l = []:=List.eq_nil_of_length_eq_zero (by omega)
  subst hn
  have hE:=fun W=>Lib.run_eql_slice_nil W 22 4 none 0 c 0 0 Tryz.underlying22
  go_enter Tryz.func73,Tryz.ntmps73
  go_wp2_with fail
  go_ret
  exact ⟨none,0,rfl,World.ownsRow_nil _ _ _ _,Below.refl _ _⟩
 ·have hl:(boV l).length = n * 1:=by rw [boV_len,hn]; omega
  clear hn
  have hE:=fun W=>Lib.run_eql_slice_nil W 22 4 (some ad) n c 0 0 Tryz.underlying22
  go_enter Tryz.func73,Tryz.ntmps73
  go_wp2_with (at_builtin; refine wpList_app rfl boT (.tmp 5) (.tmp 6) rfl w.heap.size rfl (own_empty _ _ _) (m:=n) rfl hl (hr.below (below_new' _ _)) (boV_one l) (by simp only [maxLen]; omega) (by omega) (by simp) n (boV l) (by omega) (by simp) ?_; intro v' w' ho hb')
  go_ret
  obtain ⟨A',c',rfl,_⟩:=own_rd ho
  exact ⟨A',c',rfl,ho,(below_new' _ _).trans hb'⟩
set_option maxRecDepth 100000 in
set_option maxHeartbeats 800000 in
theorem clone_lk (w:World) (A:Option Addr) (n c:Nat) (l:List Lk) (hr:Rd w A (lksV l)) (hn:l.length = n) (hb:n ≤ 1000000) :
  Calls Tryz.prog 74 #[.slice A n c] w (ClonePost w 79 7 n (lksV l)):=by
 rcases A with _ | ad
 ·have h0:=hr.nil_len
  rw [lksV_len] at h0
  obtain rfl:l = []:=List.eq_nil_of_length_eq_zero (by omega)
  subst hn
  have hE:=fun W=>Lib.run_eql_slice_nil W 23 79 none 0 c 0 0 Tryz.underlying23
  go_enter Tryz.func74,Tryz.ntmps74
  go_wp2_with fail
  go_ret
  exact ⟨none,0,rfl,World.ownsRow_nil _ _ _ _,Below.refl _ _⟩
 ·have hl:(lksV l).length = n * 7:=by rw [lksV_len,hn]
  clear hn
  have hE:=fun W=>Lib.run_eql_slice_nil W 23 79 (some ad) n c 0 0 Tryz.underlying23
  go_enter Tryz.func74,Tryz.ntmps74
  go_wp2_with (at_builtin; refine wpList_app rfl lkT (.tmp 5) (.tmp 6) rfl w.heap.size rfl (own_empty _ _ _) (m:=n) rfl hl (hr.below (below_new' _ _)) (lksV_one l) (by simp only [maxLen]; omega) (by omega) (by simp) n (lksV l) (by omega) (by simp) ?_; intro v' w' ho hb')
  go_ret
  obtain ⟨A',c',rfl,_⟩:=own_rd ho
  exact ⟨A',c',rfl,ho,(below_new' _ _).trans hb'⟩
end Go.Proofs.YtehimhbgakpenaaGreat

namespace Go.Proofs.YtehimhbgakpenaaGreat
set_option linter.unusedVariables false
open Go.RowKit Go.ChangeShapes Go.WideShapes Go.ChangeAt
section
variable {P:Program} {w:World} {t:TypeId}
theorem opens_link {f0 f1 f2 f3 f4 f5:Field} {R:Int → List Value → Prop} {R2:Int × Int → List Value → Prop}
  (ht:P.underlying t = some (.struct #[f0,f1,f2,f3,f4,f5])) (o0:f0.offset = 0) (o1:f1.offset = 1) (o2:f2.offset = 2) (o3:f3.offset = 4) (o4:f4.offset = 5) (o5:f5.offset = 6)
  (c0:P.cellsOf f0.type = 1) (c1:P.cellsOf f1.type = 1) (c2:P.cellsOf f2.type = 2) (c3:P.cellsOf f3.type = 1) (c4:P.cellsOf f4.type = 1) (c5:P.cellsOf f5.type = 1) (hC:P.cellsOf t = 7)
  (h0:Opens P w f0.type R) (h1:Opens P w f1.type R) (h2:Opens P w f2.type R2) (h3:Opens P w f3.type R) (h4:Opens P w f4.type R) (h5:Opens P w f5.type R) :
  Opens P w t (fun (x:Int × Int × (Int × Int) × Int × Int × Int) cs=>∃ v0 v1 v2 v2' v3 v4 v5,cs = [v0,v1,v2,v2',v3,v4,v5] ∧ R x.1 [v0] ∧ R x.2.1 [v1] ∧ R2 x.2.2.1 [v2,v2'] ∧ R x.2.2.2.1 [v3] ∧ R x.2.2.2.2.1 [v4] ∧ R x.2.2.2.2.2 [v5]):=by
 intro H enc base spare held fuel cs x hx
 obtain ⟨xs,n,_,_,hcl,hl,hi⟩:=DataW.trod_struct ht hx
 simp at hl
 have e0:=hi 0 f0 rfl
 have e1:=hi 1 f1 rfl
 have e2:=hi 2 f2 rfl
 have e3:=hi 3 f3 rfl
 have e4:=hi 4 f4 rfl
 have e5:=hi 5 f5 rfl
 rw [List.getElem?_eq_getElem (by omega)] at e0 e1 e2 e3 e4 e5
 rw [hC] at hcl
 match cs,hcl with
 | [v0,v1,v2,v2',v3,v4,v5],_ =>
   rw [o0,c0] at e0
   rw [o1,c1] at e1
   rw [o2,c2] at e2
   rw [o3,c3] at e3
   rw [o4,c4] at e4
   rw [o5,c5] at e5
   obtain ⟨p0,r0,_⟩:=h0 e0
   obtain ⟨p1,r1,_⟩:=h1 e1
   obtain ⟨p2,r2,_⟩:=h2 e2
   obtain ⟨p3,r3,_⟩:=h3 e3
   obtain ⟨p4,r4,_⟩:=h4 e4
   obtain ⟨p5,r5,_⟩:=h5 e5
   exact ⟨(p0,p1,p2,p3,p4,p5),⟨v0,v1,v2,v2',v3,v4,v5,rfl,r0,r1,r2,r3,r4,r5⟩,by simp [hC]⟩
end
def lkOf (x:Int × Int × (Int × Int) × Int × Int × Int):Lk:=⟨x.1,x.2.1,x.2.2.1.1,x.2.2.1.2,x.2.2.2.1,x.2.2.2.2.1,x.2.2.2.2.2⟩
theorem rep_lk {xs:List (Int × Int × (Int × Int) × Int × Int × Int)}:∀ {vs:List Value},Rep (fun (x:Int × Int × (Int × Int) × Int × Int × Int) cs=>∃ v0 v1 v2 v2' v3 v4 v5,cs = [v0,v1,v2,v2',v3,v4,v5] ∧ IsInt .i64 x.1 [v0] ∧ IsInt .i64 x.2.1 [v1] ∧ IsTwo (IsInt .i64) (IsInt .i64) x.2.2.1 [v2,v2'] ∧ IsInt .i64 x.2.2.2.1 [v3] ∧ IsInt .i64 x.2.2.2.2.1 [v4] ∧ IsInt .i64 x.2.2.2.2.2 [v5]) 7 xs vs → vs = lksV (xs.map lkOf):=by
 induction xs with
 | nil=>intro vs h; exact h
 | cons x t ih =>
   rintro vs ⟨c,q,rfl,⟨a0,a1,a2,a2',a3,a4,a5,rfl,⟨e0,_⟩,⟨e1,_⟩,⟨c1,c2,e2,⟨rfl,_⟩,⟨rfl,_⟩⟩,⟨e3,_⟩,⟨e4,_⟩,⟨e5,_⟩⟩,_,hr⟩
   rw [ih hr]
   simp only [List.cons.injEq,and_true,List.cons_append,List.nil_append] at e0 e1 e2 e3 e4 e5
   obtain ⟨rfl,rfl⟩:=e2
   subst e0 e1 e3 e4 e5
   rfl
theorem rep_bo {xs:List Bool}:∀ {vs:List Value},Rep IsBool 1 xs vs → vs = boV xs:=by
 induction xs with
 | nil=>intro vs h; exact h
 | cons x t ih =>
   rintro vs ⟨c,q,rfl,h1,_,hr⟩
   unfold IsBool at h1
   rw [ih hr,h1]
   rfl
def IsTp (w:World) (x:Tp) (cs:List Value):Prop:=TpAt w (.agg cs.toArray) x ∧ cs.length = 3
theorem opens_tp (w:World):Opens Tryz.prog w 25 (IsTp w):=by
 have OI:Opens Tryz.prog w 3 _:=opens_int (w:=w) Tryz.underlying3 (by kernel_rfl)
 have OL:Opens Tryz.prog w 79 _:=opens_link (w:=w) Tryz.underlying79 rfl rfl rfl rfl rfl rfl (by kernel_rfl) (by kernel_rfl) (by kernel_rfl) (by kernel_rfl) (by kernel_rfl) (by kernel_rfl) (by kernel_rfl) OI OI (opens_arr2 Tryz.underlying77 (by kernel_rfl) OI) OI OI OI
 have O:Opens Tryz.prog w 25 _:=opens_struct3 (w:=w) Tryz.underlying25 rfl rfl rfl (by kernel_rfl) (by kernel_rfl) (by kernel_rfl) (by kernel_rfl) OI
  (opens_slice Tryz.underlying22 (by kernel_rfl) (opens_bool Tryz.underlying4 (by kernel_rfl))) (opens_slice Tryz.underlying23 (by kernel_rfl) OL)
 intro H enc base spare held fuel cs x hx
 obtain ⟨⟨p0,xs,ys⟩,⟨v0,v1,v2,rfl,⟨e0,_⟩,⟨A,c,vs,e1,l1,l2,r1,rd1⟩,⟨B,d,us,e2,l3,l4,r2,rd2⟩⟩,hl⟩:=O hx
 rw [show Tryz.prog.cellsOf 4 = 1 from by kernel_rfl] at r1
 rw [show Tryz.prog.cellsOf 79 = 7 from by kernel_rfl] at r2
 obtain rfl:=rep_bo r1
 obtain rfl:=rep_lk r2
 simp only [List.cons.injEq,and_true] at e0 e1 e2
 subst e0 e1 e2
 simp only at l1 l3 ⊢
 refine ⟨⟨p0,xs,ys.map lkOf⟩,⟨⟨A,c,B,d,?_,rd1,rd2,Nat.le_trans l1 l2,by simp only [List.length_map]; exact Nat.le_trans l3 l4⟩,rfl⟩,hl⟩
 simp only [List.length_map]
section
variable {H:Type} {enc:TypeId × Value → H} {w:World} {base:Nat} {spare:Nat → Bool} {held:Bool} {r:Reach} {b0:Nat} {v:Value} {d:DataW H} {ps:List MemPlace}
set_option maxRecDepth 100000 in
theorem arg_tp (hv:Value.okWide Tryz.prog w r b0 25 v) (h:DataW.Trod enc Tryz.prog w base spare held 25 v d ps):∃ x,TpAt w v x:=by
 obtain ⟨cs,x,rfl,hx,_⟩:=arg_struct Tryz.underlying25 (opens_tp w) hv h
 exact ⟨x,hx⟩
end
end Go.Proofs.YtehimhbgakpenaaGreat

namespace Go.Proofs.YtehimhbgakpenaaGreat
set_option linter.unusedVariables false
open Go.RowKit Go.Sort
set_option maxRecDepth 100000 in
set_option maxHeartbeats 6400000 in
theorem tvalid_any (w:World) (v:Value) (t:Tp) (h:TpAt w v t):Calls Tryz.prog 30 #[v] w fun e w'=>e = .returned (.bool (tB t)) ∧ Below w.heap.size w w':=by
 obtain ⟨A,c,B,d,rfl,rA,rB,h1,h2⟩:=h
 have S:=((St.start w).read rB).new' #[.int .i64 t.n,.slice A t.ov.length c,.slice B t.ln.length d] 25 w.heap.size _ rfl rfl
 clear rA rB
 have hres:Hid (∀ b,(b = true → TpOk t) → (b = false → ¬ TpOk t) → b = tB t):=fun b h1 h2=>by
  cases b with
  | true=>exact (tB_t (h1 rfl)).symm
  | false=>exact (tB_f (h2 rfl)).symm
 obtain ⟨n,hn⟩:∃ n,t.n = n:=⟨_,rfl⟩
 obtain ⟨k,hk⟩:∃ k,t.ov.length = k:=⟨_,rfl⟩
 obtain ⟨m,hm⟩:∃ m,t.ln.length = m:=⟨_,rfl⟩
 obtain ⟨l,hl⟩:∃ l,t.ln = l:=⟨_,rfl⟩
 have hml:l.length = m:=by rw [← hl,hm]
 rw [hn,hk,hm,hl] at S
 rw [hm] at h2
 rw [hk] at h1
 unfold maxLen at h1 h2
 simp only [hn,hk,hm]
 replace hn:=Lib.hid hn
 replace hk:=Lib.hid hk
 replace hm:=Lib.hid hm
 replace hl:=Lib.hid hl
 replace hml:=Lib.hid hml
 obtain ⟨tb,htb⟩:∃ z,tB t = z:=⟨_,rfl⟩
 rw [htb] at hres ⊢
 clear htb
 have c0:=S.c 0 0 rfl rfl
 have c1:=S.c 0 1 rfl rfl
 have c2:=S.c 0 2 rfl rfl
 go_enter Tryz.func30,Tryz.ntmps30
 go_wp2_with fail
 (with_reducible refine (twithin_any _ _ _ _).mono ?_)
 rintro e w1 ⟨rfl,rfl⟩
 rcases hw1:wiB n 1 64 with _ | _
 ·have:=wiB_f hw1
  obtain rfl:=hres.out false (fun h=>by cases h) (fun _ h=>by have h5:=h.n; rw [hn.out] at h5; omega)
  go_wp2_with fail
  go_ret
  exact ⟨rfl,S.b⟩
 replace hw1:=Lib.hid (wiB_t hw1)
 by_cases hl1:256 < m
 ·obtain rfl:=hres.out false (fun h=>by cases h) (fun _ h=>by have:=h.ln; rw [hm.out] at this; omega)
  go_wp2_with fail
  go_ret
  exact ⟨rfl,S.b⟩
 by_cases hk0:k = 0 ∨ (k:Int) = n
 rotate_left
 ·obtain rfl:=hres.out false (fun h=>by cases h) (fun _ h=>by have:=h.ov; rw [hk.out,hn.out] at this; exact hk0 this)
  have hk1:k ≠ 0:=fun h=>hk0 (.inl h)
  have hk2:(k:Int) ≠ n:=fun h=>hk0 (.inr h)
  have e1:((k:Int) != 0) = true:=by simp; omega
  have e2:((k:Int) != n) = true:=by simp; exact hk2
  clear hk0 hk1 hk2
  go_wp2_with fail
  go_ret
  exact ⟨rfl,S.b⟩
 have hgo:Hid (∀ b,(b = true → ∀ x ∈ l,LkOk n x) → (b = false → ¬ ∀ x ∈ l,LkOk n x) → b = tb):=fun b h1 h2=>hres.out b
  (fun h=>⟨by rw [hn.out]; exact hw1.out,by rw [hk.out,hn.out]; exact hk0,by rw [hm.out]; omega,by rw [hl.out,hn.out]; exact h1 h⟩)
  (fun h h3=>h2 h (by have:=h3.all; rwa [hl.out,hn.out] at this))
 have hcut:(k:Int) = 0 ∨ ((k:Int) ≠ 0 ∧ (k:Int) = n):=by omega
 have hT:Hid (∀ j (hj:j < l.length),j < 0 → LkOk n l[j]):=fun j hj h=>absurd h (by omega)
 clear hres hn hk hm hl h1 h2 hw1 hk0
 generalize World.alloc w _ = w1 at *
 have hq:((k:Int) != 0) = false ∨ (((k:Int) != 0) = true ∧ ((k:Int) != n) = false):=by
  rcases hcut with e | ⟨e1,e2⟩
  ·left; simp; omega
  ·right; constructor
   ·simp; omega
   ·simp; omega
 clear hcut
 rcases hq with e1 | ⟨e1,e3⟩
 all_goals
  go_wp2_with fail
  clear e1
  go_loopw [30] (fun v30 wr=>∃ i:Nat,v30 = .int .i64 i ∧ i ≤ m ∧ Hid (∀ j (hj:j < l.length),j < i → LkOk n l[j]) ∧ St w wr [(w.heap.size,[.int .i64 n,.slice A k c,.slice B m d])] [(B,lksV l)]) (fun v30 _=>m - (intOf v30).toNat)
  case atStart=>exact ⟨0,rfl,by omega,hT,S⟩
  case round =>
   clear S hT
   obtain ⟨i,rfl,hi,hT,S⟩:=hrel
   clear c0 c1 c2
   by_cases him:i < m
   ·have hil:i < l.length:=by have:=hml.out; omega
    obtain ⟨b,off,rfl,hc⟩:=rd_lk (S.r 0 rfl) (by omega)
    have hT2:Hid (LkOk n l[i] → ∀ j (hj:j < l.length),j < i + 1 → LkOk n l[j]):=fun h j hj hji=>by
     by_cases e:j = i
     ·subst e; exact h
     ·exact hT.out j hj (by omega)
    have hbad:Hid (¬ LkOk n l[i] → false = tb):=fun h=>hgo.out false (fun h=>by cases h) (fun _ h2=>h (h2 _ (List.getElem_mem hil)))
    have hcw:=fun W (h:Rd W (some ⟨b,off,none⟩) (lksV l))=>h
    obtain ⟨x,hx⟩:∃ x,l[i] = x:=⟨_,rfl⟩
    have hcc:∀ W,Rd W (some ⟨b,off,none⟩) (lksV l) → LkC W b (off + i * 7) x:=fun W h=>by
     obtain ⟨b',off',e,hc'⟩:=rd_lk h (by omega)
     simp only [Option.some.injEq,Addr.mk.injEq,and_true] at e
     obtain ⟨rfl,rfl⟩:=e
     have:=hc' i hil
     rwa [hx] at this
    rw [hx] at hT2 hbad
    clear hc hcw hx hT
    obtain ⟨xa,xb,xc,xd,xcap,xdel,xgrp⟩:=x
    replace hcc:=Lib.hid hcc
    have c0:=S.c 0 0 rfl rfl
    have c1:=S.c 0 1 rfl rfl
    have c2:=S.c 0 2 rfl rfl
    obtain ⟨x0,x1,x2,x3,x3',x4,x5,x6⟩:=hcc.out _ (S.r 0 rfl)
    simp only at x0 x1 x2 x3 x3' x4 x5 x6
    go_wp2_with fail
    by_cases hab:xa = xb
    ·subst hab
     obtain rfl:=hbad.out (fun h=>h.ne rfl)
     go_quiet (fail)
     go_wp2_with fail
     go_ret
     exact ⟨rfl,below_drewN S.b nq⟩
    have e1:(xa == xb) = false:=by simp [hab]
    have NA:=fun W=>node_any n xa (.slice A k c) (.slice (some ⟨b,off,none⟩) m d) rfl rfl W
    have NB:=fun W=>node_any n xb (.slice A k c) (.slice (some ⟨b,off,none⟩) m d) rfl rfl W
    obtain ⟨pa,hpa⟩:∃ p,ndB n xa = p:=⟨_,rfl⟩
    obtain ⟨pb,hpb⟩:∃ p,ndB n xb = p:=⟨_,rfl⟩
    rw [hpa] at NA
    rw [hpb] at NB
    replace NA:=Lib.hid NA
    replace NB:=Lib.hid NB
    replace hab:=Lib.hid hab
    clear c0 c1 c2 x2 x3 x3' x4 x5 x6
    have c0:=cell_regrown (S.c 0 0 rfl rfl)
    have c1:=cell_regrown (S.c 0 1 rfl rfl)
    have c2:=cell_regrown (S.c 0 2 rfl rfl)
    replace x0:=cell_regrown x0
    replace x1:=cell_regrown x1
    rcases hpa2:pa with _ | _
    ·subst hpa2
     obtain rfl:=hbad.out (fun h=>ndB_f hpa h.a)
     refine wp_region_quiet_below (by kernel_rfl) (by kernel_rfl) ?_
     repeat (go_big_quiet_step ((first | (go_at_call 32; with_reducible exact Calls.regrown_of (NA.out _)))))
     refine wpQuiet_nil ?_
     intro _ hw'
     obtain ⟨⟨dq,osq⟩,hw''⟩:=hw'
     subst hw''
     replace S:=S.call (below_regrown _ dq osq)
     generalize grow (redrawn _ dq) osq = w4 at *
     go_wp2_with fail
     go_ret
     exact ⟨rfl,S.b⟩
    subst hpa2
    rcases hpb2:pb with _ | _
    ·subst hpb2
     obtain rfl:=hbad.out (fun h=>ndB_f hpb h.b)
     refine wp_region_quiet_below (by kernel_rfl) (by kernel_rfl) ?_
     repeat (go_big_quiet_step ((first | (go_at_call 32; with_reducible exact Calls.regrown_of (NA.out _)) | (go_at_call 32; with_reducible exact Calls.regrown_of (NB.out _)))))
     refine wpQuiet_nil ?_
     intro _ hw'
     obtain ⟨⟨dq,osq⟩,hw''⟩:=hw'
     subst hw''
     replace S:=S.call (below_regrown _ dq osq)
     generalize grow (redrawn _ dq) osq = w4 at *
     go_wp2_with fail
     go_ret
     exact ⟨rfl,S.b⟩
    subst hpb2
    refine wp_region_quiet_below (by kernel_rfl) (by kernel_rfl) ?_
    repeat (go_big_quiet_step ((first | (go_at_call 32; with_reducible exact Calls.regrown_of (NA.out _)) | (go_at_call 32; with_reducible exact Calls.regrown_of (NB.out _)))))
    refine wpQuiet_nil ?_
    intro _ hw'
    obtain ⟨⟨dq,osq⟩,hw''⟩:=hw'
    subst hw''
    replace S:=S.call (below_regrown _ dq osq)
    generalize grow (redrawn _ dq) osq = w4 at *
    clear x0 x1 c0 c1 c2 NA NB e1
    replace hpa:=Lib.hid (ndB_t hpa)
    replace hpb:=Lib.hid (ndB_t hpb)
    obtain ⟨x0,x1,x2,x3,x3',x4,x5,x6⟩:=hcc.out _ (S.r 0 rfl)
    simp only at x0 x1 x2 x3 x3' x4 x5 x6
    go_wp2_with fail
    (with_reducible refine (twithin_any _ _ _ _).mono ?_)
    rintro e w5 ⟨rfl,rfl⟩
    rcases hv1:wiB xc 1 65535 with _ | _
    ·have h9:=wiB_f hv1
     obtain rfl:=hbad.out (fun h=>by have:=h.c; simp only at this; omega)
     go_wp2_with fail
     go_ret
     exact ⟨rfl,S.b⟩
    replace hv1:=Lib.hid (wiB_t hv1)
    go_wp2_with fail
    (with_reducible refine (twithin_any _ _ _ _).mono ?_)
    rintro e w5 ⟨rfl,rfl⟩
    rcases hv2:wiB xd 1 65535 with _ | _
    ·have h9:=wiB_f hv2
     obtain rfl:=hbad.out (fun h=>by have:=h.d; simp only at this; omega)
     go_wp2_with fail
     go_ret
     exact ⟨rfl,S.b⟩
    replace hv2:=Lib.hid (wiB_t hv2)
    go_wp2_with fail
    (with_reducible refine (twithin_any _ _ _ _).mono ?_)
    rintro e w5 ⟨rfl,rfl⟩
    rcases hv3:wiB xcap 0 1048576 with _ | _
    ·have h9:=wiB_f hv3
     obtain rfl:=hbad.out (fun h=>by have:=h.cap; simp only at this; omega)
     go_wp2_with fail
     go_ret
     exact ⟨rfl,S.b⟩
    replace hv3:=Lib.hid (wiB_t hv3)
    go_wp2_with fail
    (with_reducible refine (twithin_any _ _ _ _).mono ?_)
    rintro e w5 ⟨rfl,rfl⟩
    rcases hv4:wiB xdel 1 65536 with _ | _
    ·have h9:=wiB_f hv4
     obtain rfl:=hbad.out (fun h=>by have:=h.del; simp only at this; omega)
     go_wp2_with fail
     go_ret
     exact ⟨rfl,S.b⟩
    replace hv4:=Lib.hid (wiB_t hv4)
    go_wp2_with fail
    (with_reducible refine (twithin_any _ _ _ _).mono ?_)
    rintro e w5 ⟨rfl,rfl⟩
    rcases hv5:wiB xgrp 0 64 with _ | _
    ·have h9:=wiB_f hv5
     obtain rfl:=hbad.out (fun h=>by have:=h.grp; simp only at this; omega)
     go_wp2_with fail
     go_ret
     exact ⟨rfl,S.b⟩
    replace hv5:=Lib.hid (wiB_t hv5)
    go_wp2_with fail
    go_round
    case rel=>exact ⟨i + 1,by go_num,by omega,hT2.out ⟨hpa.out,hpb.out,hab.out,hv1.out,hv2.out,hv3.out,hv4.out,hv5.out⟩,S⟩
    case measure=>simp [intOf]; omega
   ·obtain rfl:i = m:=by omega
    obtain rfl:=hgo.out true (fun _ x hx=>by
     obtain ⟨j,hj,rfl⟩:=List.getElem_of_mem hx
     exact hT.out j hj (by have:=hml.out; omega)) (fun h=>by cases h)
    have c0:=S.c 0 0 rfl rfl
    have c1:=S.c 0 1 rfl rfl
    have c2:=S.c 0 2 rfl rfl
    go_wp2_with fail
    go_ret
    exact ⟨rfl,S.b⟩
end Go.Proofs.YtehimhbgakpenaaGreat

namespace Go.Proofs.YtehimhbgakpenaaGreat
set_option linter.unusedVariables false
open Go.RowKit Go.Maps Go.Sort
def tailL (x:Lk) (p:Bool):Int:=if p = true then x.b else x.a
def arcI (k:Nat) (p:Bool):Int:=if p = true then 2 * (k:Int) + 1 else 2 * (k:Int)
theorem arc_rem (k:Nat) (p:Bool):(arcI k p).tmod 2 = if p = true then 1 else 0:=by
 cases p
 ·simp [arcI]
 ·rw [Int.tmod_eq_emod_of_nonneg (by simp only [arcI]; simp; omega)]; simp [arcI]
theorem arc_quo (k:Nat) (p:Bool):(arcI k p).tdiv 2 = k:=by
 rw [Int.tdiv_eq_ediv_of_nonneg (by cases p <;> simp only [arcI] <;> simp <;> omega)]
 cases p <;> simp [arcI] <;> omega
set_option maxRecDepth 100000 in
set_option maxHeartbeats 1600000 in
theorem tail_any (w:World) (v:Value) (t:Tp) (h:TpAt w v t) (k:Nat) (p:Bool) (hk:k < t.ln.length) (hm:t.ln.length ≤ 256):Calls Tryz.prog 76 #[v,.int .i64 (arcI k p)] w fun e w'=>e = .returned (.int .i64 (tailL t.ln[k] p)) ∧ Below w.heap.size w w':=by
 obtain ⟨A,c,B,d,rfl,rA,rB,h3,h4⟩:=h
 have hb:=below_new' w (.cells #[.int .i64 t.n,.slice A t.ov.length c,.slice B t.ln.length d] 25)
 have S:=((St.start w).read rB).new' #[.int .i64 t.n,.slice A t.ov.length c,.slice B t.ln.length d] 25 w.heap.size _ rfl rfl
 obtain ⟨b,off,hB,hc⟩:=rd_lk (S.r 0 rfl) (by omega)
 subst hB
 have L:=hc k hk
 have e1:=arc_rem k p
 have e2:=arc_quo k p
 have l1:=L.c0
 have l2:=L.c1
 generalize t.ln[k] = x at *
 generalize arcI k p = z at *
 clear hc L rA rB
 have c0:=S.c 0 0 rfl rfl
 have c1:=S.c 0 1 rfl rfl
 have c2:=S.c 0 2 rfl rfl
 cases p
 ·simp only [tailL]
  go_enter Tryz.func76,Tryz.ntmps76
  go_wp2_with fail
  go_ret
  exact ⟨rfl,hb⟩
 ·simp only [tailL]
  go_enter Tryz.func76,Tryz.ntmps76
  go_wp2_with fail
  go_ret
  exact ⟨rfl,hb⟩
theorem arc_xor0:∀ k:Fin 256,∀ p:Bool,bits .xor .i64 (arcI k p) 1 = arcI k (!p):=by decide +kernel
theorem arc_xor (k:Nat) (hk:k < 256) (p:Bool):bits .xor .i64 (arcI k p) 1 = arcI k (!p):=arc_xor0 ⟨k,hk⟩ p
set_option maxRecDepth 100000 in
set_option maxHeartbeats 1600000 in
theorem head_any (w:World) (v:Value) (t:Tp) (h:TpAt w v t) (k:Nat) (p:Bool) (hk:k < t.ln.length) (hm:t.ln.length ≤ 256):Calls Tryz.prog 39 #[v,.int .i64 (arcI k p)] w fun e w'=>e = .returned (.int .i64 (tailL t.ln[k] (!p))) ∧ Below w.heap.size w w':=by
 have h':=h
 obtain ⟨A,c,B,d,rfl,rA,rB,h3,h4⟩:=h
 have hb:=below_new' w (.cells #[.int .i64 t.n,.slice A t.ov.length c,.slice B t.ln.length d] 25)
 have S:=(St.start w).new' #[.int .i64 t.n,.slice A t.ov.length c,.slice B t.ln.length d] 25 w.heap.size _ rfl rfl
 have TL:=Lib.hid (tail_any _ _ t (h'.below hb) k (!p) hk hm)
 have e1:=arc_xor k (by omega) p
 generalize arcI k p = z at *
 generalize arcI k (!p) = z' at *
 clear rA rB h'
 have c0:=S.c 0 0 rfl rfl
 have c1:=S.c 0 1 rfl rfl
 have c2:=S.c 0 2 rfl rfl
 go_enter Tryz.func39,Tryz.ntmps39
 go_wp2_with fail
 (with_reducible refine (TL.out).mono ?_)
 rintro e w1 ⟨rfl,hb2⟩
 go_wp2_with fail
 go_ret
 exact ⟨rfl,hb.trans (hb2.mono hb.size)⟩
def costL (x:Lk) (p:Bool):Int:=if p = true then x.d else x.c
set_option maxRecDepth 100000 in
set_option maxHeartbeats 1600000 in
theorem cost_any (w:World) (v:Value) (t:Tp) (h:TpAt w v t) (k:Nat) (p:Bool) (hk:k < t.ln.length) (hm:t.ln.length ≤ 256):Calls Tryz.prog 40 #[v,.int .i64 (arcI k p)] w fun e w'=>e = .returned (.int .i64 (costL t.ln[k] p)) ∧ Below w.heap.size w w':=by
 obtain ⟨A,c,B,d,rfl,rA,rB,h3,h4⟩:=h
 have hb:=below_new' w (.cells #[.int .i64 t.n,.slice A t.ov.length c,.slice B t.ln.length d] 25)
 have S:=((St.start w).read rB).new' #[.int .i64 t.n,.slice A t.ov.length c,.slice B t.ln.length d] 25 w.heap.size _ rfl rfl
 obtain ⟨b,off,hB,hc⟩:=rd_lk (S.r 0 rfl) (by omega)
 subst hB
 have L:=hc k hk
 have e1:=arc_rem k p
 have e2:=arc_quo k p
 have l1:=L.c2
 have l2:=L.c3
 generalize t.ln[k] = x at *
 generalize arcI k p = z at *
 clear hc L rA rB
 have c0:=S.c 0 0 rfl rfl
 have c1:=S.c 0 1 rfl rfl
 have c2:=S.c 0 2 rfl rfl
 cases p
 ·simp only [costL]
  go_enter Tryz.func40,Tryz.ntmps40
  go_wp2_with fail
  go_ret
  exact ⟨rfl,hb⟩
 ·simp only [costL]
  go_enter Tryz.func40,Tryz.ntmps40
  go_wp2_with fail
  go_ret
  exact ⟨rfl,hb⟩
def ovB (t:Tp) (n:Nat):Bool:=t.ov[n]?.getD false
set_option maxRecDepth 100000 in
set_option maxHeartbeats 1600000 in
theorem over_any (w:World) (v:Value) (t:Tp) (h:TpAt w v t) (n:Nat) (z:Int) (hz:z = (n:Int)) (hn:t.ov.length = 0 ∨ n < t.ov.length) (h64:t.ov.length ≤ 1000000):Calls Tryz.prog 34 #[v,.int .i64 z] w fun e w'=>e = .returned (.bool (ovB t n)) ∧ Below w.heap.size w w':=by
 obtain ⟨A,c,B,d,rfl,rA,rB,h3,h4⟩:=h
 have hb:=below_new' w (.cells #[.int .i64 t.n,.slice A t.ov.length c,.slice B t.ln.length d] 25)
 have S:=((St.start w).read rA).new' #[.int .i64 t.n,.slice A t.ov.length c,.slice B t.ln.length d] 25 w.heap.size _ rfl rfl
 rcases hn with hn | hn
 ·have e:ovB t n = false:=by unfold ovB; rw [List.getElem?_eq_none (by omega)]; rfl
  rw [e]
  rw [hn] at hb S ⊢
  clear hn
  have e1:decide ((0:Int) < ((0:Nat):Int)) = false:=rfl
  have c0:=S.c 0 0 rfl rfl
  have c1:=S.c 0 1 rfl rfl
  have c2:=S.c 0 2 rfl rfl
  clear rA rB e
  go_enter Tryz.func34,Tryz.ntmps34
  go_wp2_with fail
  all_goals (first | done | go_ret)
  all_goals exact ⟨rfl,hb⟩
 ·obtain ⟨b,off,hB,hc⟩:=rd_bo (S.r 0 rfl) (by omega)
  subst hB
  have L:=hc n hn
  have e:ovB t n = t.ov[n]:=by unfold ovB; rw [List.getElem?_eq_getElem hn]; rfl
  rw [e]
  generalize t.ov[n] = x at *
  subst hz
  clear hc rA rB e
  generalize t.ov.length = k at *
  have e1:decide ((0:Int) < (k:Int)) = true:=by simp; omega
  have c0:=S.c 0 0 rfl rfl
  have c1:=S.c 0 1 rfl rfl
  have c2:=S.c 0 2 rfl rfl
  go_enter Tryz.func34,Tryz.ntmps34
  go_wp2_with fail
  all_goals (first | done | go_ret)
  all_goals exact ⟨rfl,hb⟩
theorem Box.belowB {w w':World} {g B:Nat} {cs:List Value} (h:Box w g cs) (hb:Below B w w') (hg:g < B):Box w' g cs:=fun i u hu=>by
 have:=h i u hu
 have e:=hb.block g hg
 exact ⟨(World.cell?_of_block (a:=⟨g,i,none⟩) e).trans this.1,(World.frozen?_of_block (a:=⟨g,i,none⟩) e).trans this.2⟩
theorem St.callB {W w w':World} {bs:List (Nat × List Value)} {rs:List (Option Addr × List Value)} (S:St W w bs rs) {B:Nat} (hb:Below B w w') (hB:W.heap.size ≤ B) (h:∀ x ∈ bs,x.1 < B):St W w' bs rs :=
 ⟨S.b.trans (hb.mono hB),fun i x hx=>(S.bx i x hx).belowB hb (h x (List.mem_of_getElem? hx)),S.rd⟩
theorem arc_of (i:Nat):arcI (i / 2) (decide (i % 2 = 1)) = (i:Int):=by
 unfold arcI
 by_cases h:i % 2 = 1
 ·simp only [h,decide_true,if_true]; omega
 ·simp only [h,decide_false]; simp; omega
def tlI (l:List Lk) (i:Nat):Int:=match l[i / 2]? with | some x=>tailL x (decide (i % 2 = 1)) | none=>-1
def outK (l:List Lk) (n:Int) (k:Nat):List Int:=((List.range k).filter fun i=>decide (tlI l i = n)).map fun (i:Nat)=>(i:Int)
theorem outK_succ (l:List Lk) (n:Int) (k:Nat):outK l n (k + 1) = outK l n k ++ if tlI l k = n then [(k:Int)] else []:=by
 unfold outK
 rw [List.range_succ,List.filter_append,List.map_append]
 congr 1
 by_cases h:tlI l k = n <;> simp [h]
theorem outK_len (l:List Lk) (n:Int) (k:Nat):(outK l n k).length ≤ k:=by
 unfold outK
 rw [List.length_map]
 exact Nat.le_trans (List.length_filter_le _ _) (by simp)
def outs (t:Tp) (n:Int):List Int:=outK t.ln n (2 * t.ln.length)
abbrev iV (z:Int):Value:=.int .i64 z
theorem iV_one (l:List Int):∀ u ∈ l.map iV,u.oneCell' = true:=by
 intro u hu
 obtain ⟨z,_,rfl⟩:=List.mem_map.1 hu
 rfl
theorem inT:ElemT Tryz.prog 58 3 (.int .i64 0) 1 8:=⟨Tryz.underlying58,by kernel_rfl,rfl,by omega⟩
def OutPost (w:World) (l:List Int) (e:Ending) (w':World):Prop :=
 ∃ A c,e = .returned (.slice A l.length c) ∧ w'.ownsRow w.heap.size 3 1 (.slice A l.length c) l.length (l.map iV) ∧ Below w.heap.size w w'
set_option maxRecDepth 100000 in
set_option maxHeartbeats 3200000 in
theorem out_any (w:World) (v:Value) (t:Tp) (h:TpAt w v t) (z:Int) (hm:t.ln.length ≤ 256):Calls Tryz.prog 38 #[v,.int .i64 z] w (OutPost w (outs t z)):=by
 have h':=h
 obtain ⟨A,c,B,d,rfl,rA,rB,h3,h4⟩:=h
 have S:=(St.start w).new' #[.int .i64 t.n,.slice A t.ov.length c,.slice B t.ln.length d] 25 w.heap.size _ rfl rfl
 have TL:=fun W (hb:Below w.heap.size w W) i (hi:i / 2 < t.ln.length)=>tail_any W _ t (h'.below hb) (i / 2) (decide (i % 2 = 1)) hi hm
 have TL2:Hid (∀ W,Below w.heap.size w W → ∀ i:Nat,i < 2 * t.ln.length → Calls Tryz.prog 76 #[tpV t.n A t.ov.length c B t.ln.length d,.int .i64 (i:Int)] W fun e w'=>e = .returned (.int .i64 (tlI t.ln i)) ∧ Below W.heap.size W w'):=fun W hb i hi=>by
  have:=TL W hb i (by omega)
  rw [arc_of] at this
  have e:tlI t.ln i = tailL t.ln[i / 2] (decide (i % 2 = 1)):=by unfold tlI; rw [List.getElem?_eq_getElem (by omega)]
  rw [e]; exact this
 have hfin:Hid (∀ w' A c,w'.ownsRow w.heap.size 3 1 (.slice A (outK t.ln z (2 * t.ln.length)).length c) (outK t.ln z (2 * t.ln.length)).length ((outK t.ln z (2 * t.ln.length)).map iV) → Below w.heap.size w w' → OutPost w (outs t z) (.returned (.slice A (outK t.ln z (2 * t.ln.length)).length c)) w'):=fun w' A c ho hb=>⟨A,c,rfl,ho,hb⟩
 have hle:=fun k=>outK_len t.ln z k
 have hsu:=fun k=>outK_succ t.ln z k
 obtain ⟨O,hO⟩:∃ O,outK t.ln z = O:=⟨_,rfl⟩
 have h0:O 0 = []:=by rw [← hO]; rfl
 simp only [hO] at hfin hle hsu
 obtain ⟨Q,hQ⟩:∃ Q,OutPost w (outs t z) = Q:=⟨_,rfl⟩
 rw [hQ] at hfin ⊢
 clear hO hQ TL h' rA rB h3 h4
 obtain ⟨T,hT⟩:∃ T,tlI t.ln = T:=⟨_,rfl⟩
 rw [hT] at TL2
 simp only [hT] at hsu
 clear hT
 generalize t.ln.length = m at *
 generalize t.ov.length = k at *
 generalize t.n = n at *
 replace hle:=Lib.hid hle
 replace hsu:=Lib.hid hsu
 have c0:=S.c 0 0 rfl rfl
 have c1:=S.c 0 1 rfl rfl
 have c2:=S.c 0 2 rfl rfl
 go_enter Tryz.func38,Tryz.ntmps38
 go_wp2_with fail
 (with_reducible refine (arcs_any n (.slice A k c) B m d _ (by omega)).mono ?_)
 rintro e w1 ⟨rfl,hb⟩
 clear c0 c1 c2
 replace S:=S.call hb
 clear hb
 go_wp2_with fail
 go_loopw [5,9] (fun v5 v9 wr=>∃ i:Nat,v9 = .int .i64 i ∧ i ≤ 2 * m ∧ St w wr [(w.heap.size,[.int .i64 n,.slice A k c,.slice B m d])] [] ∧ wr.ownsRow (w.heap.size + 1) 3 1 v5 (O i).length ((O i).map iV)) (fun _ v9 _=>2 * m - (intOf v9).toNat)
 case atStart=>exact ⟨0,rfl,by omega,S,by rw [h0]; exact World.ownsRow_nil _ _ _ _⟩
 case round =>
  clear S
  obtain ⟨i,rfl,hi,S,ho⟩:=hrel
  by_cases hin:i < 2 * m
  ·have TI:=Lib.hid (TL2.out wr S.b i hin)
   have hu:=Lib.hid (hsu.out i)
   have hl:=hle.out i
   have c0:=S.c 0 0 rfl rfl
   have c1:=S.c 0 1 rfl rfl
   have c2:=S.c 0 2 rfl rfl
   go_wp2_with fail
   (with_reducible refine (TI.out).mono ?_)
   rintro e w2 ⟨rfl,hb⟩
   clear c0 c1 c2
   clear TI
   replace S:=S.call hb
   replace ho:=own_below ho hb
   clear hb
   rcases hT:(T i == z) with _ | _
   ·have e:O (i + 1) = O i:=by rw [hu.out,if_neg (by simpa using hT),List.append_nil]
    rw [← e] at ho
    go_wp2_with fail
    go_round
    case rel=>exact ⟨i + 1,by go_num,by omega,S,ho⟩
    case measure=>simp [intOf]; omega
   ·have e:O i ++ [(i:Int)] = O (i + 1):=by rw [hu.out,if_pos (by simpa using hT)]
    have rd0:=Rd.lit w2 #[.int .i64 (i:Int)] 3
    have hb3:=below_new' w2 (.cells #[.int .i64 (i:Int)] 3)
    have ho3:=own_below ho hb3
    have S3:=S.call hb3
    have hsz:w.heap.size + 1 ≤ (World.alloc w2 (.cells #[.int .i64 (i:Int)] 3)).heap.size:=(S3.box 0 rfl).lt (by simp)
    clear ho S hb3
    have el:(O i).length + 1 = (O (i + 1)).length:=by rw [← e]; simp
    have el2:(O i).map iV ++ [.int .i64 (i:Int)] = (O (i + 1)).map iV:=by rw [← e]; simp
    clear e
    go_wp2_with (at_builtin; refine wpList_appG rfl inT (.tmp 17) (.tmp 19) rfl (w.heap.size + 1) rfl ho3 (m:=1) rfl (by simp) rd0 (iV_one [(i:Int)]) (by simp only [maxLen]; omega) (by omega) hsz _ _ el el2 ?_; intro v6 w6 o6 hbel6 hg6)
    have S9:=S3.callB hbel6 (by omega) (by simp)
    go_wp2_with fail
    go_round
    case rel=>exact ⟨i + 1,by go_num,by omega,S9,o6⟩
    case measure=>simp [intOf]; omega
  ·obtain rfl:i = 2 * m:=by omega
   obtain ⟨A5,c5,rfl,-⟩:=own_rd ho
   have hf:=hfin.out _ _ _ (own_mono ho (by omega)) S.b
   go_wp2_with fail
   exact hf
end Go.Proofs.YtehimhbgakpenaaGreat
