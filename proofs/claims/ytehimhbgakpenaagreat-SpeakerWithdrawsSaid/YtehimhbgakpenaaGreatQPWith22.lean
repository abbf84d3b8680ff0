/-
  The texts SKeys, DbM, Db1, Db2, Db3, Db4, Db5, Db6, one after the other.
-/
import Derived.Test.YtehimhbgakpenaaGreatQPWith0
import Derived.Test.YtehimhbgakpenaaGreatQPWith21
import Derived.Test.YtehimhbgakpenaaGreatChecked
import Derived.Shelf.AbstractIn
import Derived.Maps.OwnSet
import Derived.Sort.OwnSortedInts
import Derived.Test.YtehimhbgakpenaaGreatQPWith20
import Derived.Test.YtehimhbgakpenaaGreatQPWith6
import Derived.Test.YtehimhbgakpenaaGreatQPWith15
import Derived.StillTailTactics
import Derived.Deep.RegionLaw
namespace Go.Proofs.YtehimhbgakpenaaGreat
set_option linter.unusedVariables false
open Go.RowKit Go.Maps Go.Sort Go.Shelf
theorem sorts_in (m:Nat):AnyZI.SortsIn Tryz.prog Tryz.lsorted_ren Fence.wide m :=
 ⟨fun blk off cap ss W hH hblk hsz=>callsIn_wide.2 (AnyM.slices_Sort_int Tryz.lsort blk off cap ss W hH hblk hsz),
  fun p cap W=>callsIn_wide.2 (AnyM.slices_Sort_int_none Tryz.lsort p cap W)⟩
set_option maxRecDepth 100000 in
set_option maxHeartbeats 1000000 in
theorem origins_any {H:Type} (g b nn:Nat) (D0:DataW H) (R:Value → Option (DataW H × List MemPlace)) (w:World) (hc:w.cell? ⟨g,0,none⟩ = some (.map (some b))) (hown:w.ownsMap Tryz.prog 3 R b nn D0) (hmax:Maps.size D0 ≤ maxLen) (hbytes:Maps.size D0 * 8 ≤ 140737488355328) :
  Calls Tryz.prog 104 #[.pointer (some ⟨g,0,none⟩)] w fun e w'=>∃ (v:Value) (ss:List Int),e = .returned v ∧ ss.Perm (intKeys D0) ∧
   w'.ownsRow w.heap.size 3 1 v ss.length ((ss.mergeSort (fun x y=>decide (x ≤ y))).map encZ) ∧ (v = .slice none 0 0 ↔ ss = []) ∧ Below w.heap.size w w':=by
 refine (callsIn_wide (n:=6)).1 ?_
 have hbl:=hown.lt
 have hseq:SeqGives Fence.wide 2 Tryz.prog 185 #[.pointer (some ⟨w.heap.size,0,none⟩)] encZ (fun ss=>ss.Perm (intKeys D0)) (Maps.size D0) (w.alloc (.cells #[.map (some b)] 157)) :=
  AnyZI.keys_gives (ρ:=Tryz.lkeys_ren) { Tryz.lkeys with } Fence.wide _ trivial rfl (by omega) w.heap.size b nn D0 _ (by simp) (by simp) (by
   obtain ⟨es,clock,hb,Ft,hs,hD⟩:=hown
   exact ⟨es,clock,(Below.heap_alloc _ _ b hbl).trans hb,Ft,hs,hD⟩)
 have cK:∀ mb W,CallsIn Fence.wide 5 Tryz.prog 156 #[.map mb] W fun e w'=>e = .returned (.func (.func 185) #[] #[.pointer (some ⟨W.heap.size,0,none⟩)]) ∧ w' = W.alloc (.cells #[.map mb] 157):=fun mb W=>AnyZI.keys_in Tryz.lkeys Fence.wide 5 trivial rfl mb W
 have cS:=AnyZI.sorted_in Tryz.lsorted Fence.wide 5 trivial trivial trivial trivial rfl (by omega) (sorts_in _) (enters_of Tryz.func184 (by kernel_rfl) rfl) 185 #[.pointer (some ⟨w.heap.size,0,none⟩)] trivial (enters_of Tryz.func185 (by kernel_rfl) rfl) _ _ hmax hbytes _ hseq
 change CallsIn _ _ Tryz.prog 155 _ _ _ at cS
 have hfK:Fence.wide.fn 156:=trivial
 have hfS:Fence.wide.fn 155:=trivial
 clear hown hseq
 refine callsIn_of_wp Tryz.func104 rfl trivial ?_ rfl
 simp only [Tryz.ntmps104,List.size_toArray,List.length_cons,List.length_nil,Nat.reduceAdd,Nat.reduceSub,Array.replicate_succ,Array.replicate_zero,List.push_toArray,List.append_toArray,List.nil_append,List.cons_append]
 gi_wp2_with (first
  | (gi_at_call 156; refine (cK _ _).mono ?_; rintro e w' ⟨rfl,rfl⟩)
  | (gi_at_call 155; refine cS.mono ?_; rintro e w' ⟨v,ss,rfl,hS,hrow,hnil,hb⟩))
 go_ret
 exact ⟨v,ss,rfl,hS,ownsRow_base_a hrow (by simp),hnil,((Below.refl _ w).alloc (Nat.le_refl _) _).trans (hb.mono (by simp))⟩
end Go.Proofs.YtehimhbgakpenaaGreat

namespace Go.Proofs.YtehimhbgakpenaaGreat
set_option linter.unusedVariables false
open Go.RowKit Go.Maps Go.Sort
def hdR (v:Value):Option (DataW Value × List MemPlace):=some (.held v,[])
theorem keyI:Keyed Tryz.prog 3:=int_keyed Tryz.underlying3
theorem wf64 {i:Int} (h0:0 ≤ i) (h1:i ≤ 1000):(Lit.int .i64 i).wf = true:=WalkArith.wf_i64 (by omega)
theorem keyOfI {i:Int} (h:(Lit.int .i64 i).wf = true):keyOf Tryz.prog 3 (.int .i64 i) = some (.int .i64 i):=keyOf_int_mk Tryz.underlying3 h
abbrev hdZ:Value:=.agg #[.int .i64 0,.int .i64 0,.int .i64 0,.bool false,.slice none 0 0,.slice none 0 0,.int .i64 0]
structure DatIs (D:DataW Value) (M:Int → Option Value):Prop where
 at_:∀ i z,D.atKey (.int .i64 i) (.held z) = .held ((M i).getD z)
 has_:∀ i,Maps.has D (.int .i64 i) = (M i).isSome
 small:∀ i,(M i).isSome = true → 0 ≤ i ∧ i ≤ 63
theorem isKeyI (i:Int):WideAt.IsKeyLit (.int .i64 i):=by first | trivial | exact ⟨⟩ | simp [WideAt.IsKeyLit]
theorem ne_keyI {i j:Int} (h:j ≠ i):(Lit.int .i64 j) ≠ .int .i64 i:=fun e=>by injection e with _ e; exact h e
theorem DatIs.start:DatIs (.map []) (fun _=>none):=⟨fun i z=>rfl,fun i=>rfl,fun i h=>by simp at h⟩
theorem DatIs.put {D:DataW Value} {M:Int → Option Value} (h:DatIs D M) (hD:Maps.IsMap D) {i:Int} (h0:0 ≤ i) (h1:i ≤ 63) (v:Value):DatIs (D.put (.int .i64 i) (.held v)) (fun j=>if j = i then some v else M j):=by
 refine ⟨fun j z=>?_,fun j=>?_,fun j hj=>?_⟩
 ·by_cases e:j = i
  ·subst e; rw [atKey_put_same hD (isKeyI j)]; simp
  ·rw [atKey_put_other (ne_keyI e),h.at_,if_neg e]
 ·by_cases e:j = i
  ·subst e; rw [has_put_same hD (isKeyI j)]; simp
  ·rw [has_put_other (ne_keyI e),h.has_]; simp only [if_neg e]
 ·by_cases e:j = i
  ·subst e; exact ⟨h0,h1⟩
  ·simp only [if_neg e] at hj; exact h.small j hj
theorem DatIs.del {D:DataW Value} {M:Int → Option Value} (h:DatIs D M) (i:Int):DatIs (D.del (.int .i64 i)) (fun j=>if j = i then none else M j):=by
 refine ⟨fun j z=>?_,fun j=>?_,fun j hj=>?_⟩
 ·by_cases e:j = i
  ·subst e; rw [atKey_del_same]; simp
  ·rw [atKey_del_other (ne_keyI e),h.at_,if_neg e]
 ·by_cases e:j = i
  ·subst e; rw [has_del_same]; simp
  ·rw [has_del_other (ne_keyI e),h.has_]; simp only [if_neg e]
 ·by_cases e:j = i
  ·subst e; simp at hj
  ·simp only [if_neg e] at hj; exact h.small j hj
def keysL (M:Int → Option Value):List Int:=((List.range 64).map fun (i:Nat)=>(i:Int)).filter fun i=>(M i).isSome
theorem keysL_sorted (M:Int → Option Value):(keysL M).Pairwise (· < ·):=by
 unfold keysL
 refine List.Pairwise.filter _ ?_
 rw [List.pairwise_map]
 exact List.pairwise_lt_range.imp fun h=>by omega
theorem keysL_mem {M:Int → Option Value} (hs:∀ i,(M i).isSome = true → 0 ≤ i ∧ i ≤ 63) (i:Int):i ∈ keysL M ↔ (M i).isSome = true:=by
 unfold keysL
 rw [List.mem_filter,List.mem_map]
 constructor
 ·rintro ⟨_,hk⟩; exact hk
 ·intro h
  obtain ⟨h0,h1⟩:=hs i h
  exact ⟨⟨i.toNat,List.mem_range.2 (by omega),Int.toNat_of_nonneg h0⟩,h⟩
theorem keysL_len (M:Int → Option Value):(keysL M).length ≤ 64:=by
 unfold keysL
 refine Nat.le_trans (List.length_filter_le _ _) ?_
 simp
section
variable {w w':World} {b nn:Nat} {D:DataW Value} {M:Int → Option Value}
theorem keys_perm (hown:w.ownsMap Tryz.prog 3 hdR b nn D) (h:DatIs D M):(keysL M).Perm (intKeys D):=by
 obtain ⟨es,hD,hpw,_⟩:=hown.entries keyI
 obtain ⟨es',hD',hko⟩:=hown.keysOf
 obtain rfl:es = es':=by rw [hD] at hD'; simpa using hD'
 subst hD
 refine perm_intKeys hpw (fun p hp=>by obtain ⟨v,hv⟩:=hko p hp; obtain ⟨x,_,hx,_⟩:=Maps.keyOf_i64 Tryz.underlying3 hv; exact ⟨x,hx⟩) ?_ (fun x=>by rw [keysL_mem h.small,h.has_])
 exact (keysL_sorted M).imp fun h e=>by omega
theorem sort_keys (hown:w.ownsMap Tryz.prog 3 hdR b nn D) (h:DatIs D M) {ss:List Int} (hp:ss.Perm (intKeys D)):ss.mergeSort (fun x y=>decide (x ≤ y)) = keysL M:=by
 have h1:ss.mergeSort leI = (keysL M).mergeSort leI:=mergeSort_of_perm_i (hp.trans (keys_perm hown h).symm)
 have h2:(keysL M).mergeSort leI = keysL M:=List.mergeSort_of_pairwise ((keysL_sorted M).imp fun h=>by simp only [leI,decide_eq_true_eq]; omega)
 exact h1.trans h2
theorem size_keys (hown:w.ownsMap Tryz.prog 3 hdR b nn D) (h:DatIs D M):Maps.size D ≤ 64:=by
 have hp:=(keys_perm hown h).length_eq
 obtain ⟨es,rfl,_⟩:=hown.keysOf
 rw [show (intKeys (DataW.map es)).length = es.length by simp [intKeys]] at hp
 rw [Maps.size_eq,← hp]
 exact keysL_len M
def MapIs (w:World) (b:Nat) (M:Int → Option Value):Prop:=∃ D,w.ownsMap Tryz.prog 3 hdR b 64 D ∧ DatIs D M
theorem MapIs.of (hown:w.ownsMap Tryz.prog 3 hdR b nn D) (h:DatIs D M):MapIs w b M:=by
 refine ⟨D,?_,h⟩
 have hs:=size_keys hown h
 obtain ⟨es,clock,hb,F,_,rfl⟩:=hown
 exact ⟨es,clock,hb,F,by rwa [Maps.size_eq,length_read] at hs,rfl⟩
theorem MapIs.lt (h:MapIs w b M):b < w.heap.size:=by obtain ⟨D,h,_⟩:=h; exact h.lt
theorem MapIs.kept {row:Option Nat} (h:MapIs w b M) (hg:w.grownBy w' row) (hne:row ≠ some b):MapIs w' b M:=by
 obtain ⟨D,h,hd⟩:=h
 exact ⟨D,h.kept hg (fun e=>hne e.symm),hd⟩
theorem MapIs.below (h:MapIs w b M) (hb:Below w.heap.size w w'):MapIs w' b M:=h.kept (row:=none) ⟨hb.os,hb.tape,hb.output,hb.size,fun k hk _=>hb.block k hk⟩ (by simp)
theorem MapIs.made (w:World):MapIs (w.alloc (.map #[] 0)) w.heap.size (fun _=>none):=.of (World.ownsMap_made w _ _ _) .start
theorem MapIs.no_cell (h:MapIs w b M) (off:Nat) (p:Option Nat):w.cell? ⟨b,off,p⟩ = none:=by
 obtain ⟨D,⟨es,clock,hb,_⟩,_⟩:=h
 simp [World.cell?,hb]
theorem MapIs.small (h:MapIs w b M) {i:Int} (hi:(M i).isSome = true):0 ≤ i ∧ i ≤ 63:=by obtain ⟨D,_,hd⟩:=h; exact hd.small i hi
end
theorem hdZero (w:World):(zeroValue 206).run Tryz.prog w = .ok hdZ w:=Tryz.zeroValue206 w
section
variable {P:Program} {w:World} {b:Nat} {M:Int → Option Value} {ops:Array Oper} {rest:List Oper} {o:Oper} {a:Act} {Q:Exit → Act → World → Prop}
end
end Go.Proofs.YtehimhbgakpenaaGreat

namespace Go.Proofs.YtehimhbgakpenaaGreat
set_option linter.unusedVariables false
open Go.RowKit Go.Maps Go.Sort
set_option maxRecDepth 100000 in
set_option maxHeartbeats 1600000 in
theorem dclone_any (w:World) (v:Value) (x:La) (h:LaAt w v x) (hb1:x.adj.length ≤ 1000000) (hb2:x.pre.length ≤ 1000000) :
  Calls Tryz.prog 105 #[v] w fun e w'=>∃ v',e = .returned v' ∧ LaOwn w' w.heap.size v' x ∧ Below w.heap.size w w':=by
 obtain ⟨A,c,B,d,rfl,rA,rB,h1,h2,h3,h4,hu⟩:=h
 have S:=((((St.start w).read rB).read rA).new' #[.int .i64 x.o,.int .i64 x.s,.int .i64 x.a,.bool x.ov,.slice A x.adj.length c,.slice B x.pre.length d] 41 w.heap.size _ rfl rfl).new' #[.int .i64 0,.int .i64 0,.int .i64 0,.bool false,.slice none 0 0,.slice none 0 0] 41 (w.heap.size + 1) _ (by simp) rfl
 have C1:=fun W (h:Rd W A (adV x.adj))=>clone_ad W A _ c x.adj h rfl hb1
 have C2:=fun W (h:Rd W B (pfV x.pre))=>clone_pf W B _ d x.pre h rfl hb2
 have hfin:∀ W' A' c' B' d',W'.ownsRow w.heap.size 169 3 (.slice A' x.adj.length c') x.adj.length (adV x.adj) → W'.ownsRow w.heap.size 181 2 (.slice B' x.pre.length d') x.pre.length (pfV x.pre) → LaOwn W' w.heap.size (laV x.o x.s x.a x.ov A' x.adj.length c' B' x.pre.length d') x:=fun W' A' c' B' d' a b=>⟨A',c',B',d',rfl,a,b,hu⟩
 clear rA rB hu
 replace C1:=Lib.hid C1
 replace C2:=Lib.hid C2
 replace hfin:=Lib.hid hfin
 generalize x.adj.length = n at *
 generalize x.pre.length = m at *
 generalize x.ov = ov at *
 generalize x.o = o at *
 generalize x.s = s at *
 generalize x.a = ag at *
 have a0:=S.c 1 0 rfl rfl
 have a1:=S.c 1 1 rfl rfl
 have a2:=S.c 1 2 rfl rfl
 have a3:=S.c 1 3 rfl rfl
 have a4:=S.c 1 4 rfl rfl
 have a5:=S.c 1 5 rfl rfl
 go_enter Tryz.func105,Tryz.ntmps105
 go_wp2_with fail
 (with_reducible refine (C1.out _ (S.r 0 rfl)).mono ?_)
 rintro e w1 ⟨A1,c1,rfl,o1,hb⟩
 clear a0 a1 a2 a3 a4 a5
 replace S:=S.call hb
 clear hb C1
 simp only [World.size_alloc] at o1
 have f1:=S.f 1 4 rfl rfl
 have a0:=S.c 1 0 rfl rfl
 have a1:=S.c 1 1 rfl rfl
 have a2:=S.c 1 2 rfl rfl
 have a3:=S.c 1 3 rfl rfl
 have a4:=S.c 1 4 rfl rfl
 have a5:=S.c 1 5 rfl rfl
 have S2:=S.set 1 4 (.slice A1 n c1) rfl (by simp) (Nat.le_refl _) (by simp) _ rfl
 replace o1:=ownsRow_setCell_below (a:=⟨w.heap.size,4,none⟩) o1 (by simp only; omega) (.slice A1 n c1)
 have hsz:=S2.b.size
 have hlt:=S2.lt 0 rfl (by simp)
 go_wp2_with fail
 generalize w1.setCell ⟨w.heap.size,4,none⟩ (.slice A1 n c1) = w2 at *
 (with_reducible refine (C2.out _ (S2.r 1 rfl)).mono ?_)
 rintro e w3 ⟨B1,d1,rfl,o2,hb⟩
 clear a0 a1 a2 a3 a4 a5
 clear f1 C2 S
 replace o1:=own_below o1 hb
 replace S2:=S2.call hb
 clear hb
 have f2:=S2.f 1 5 rfl rfl
 have e0:=S2.f 0 0 rfl rfl
 have e1:=S2.f 0 1 rfl rfl
 have e2:=S2.f 0 2 rfl rfl
 have e3:=S2.f 0 3 rfl rfl
 have e4:=S2.f 0 4 rfl rfl
 have e5:=S2.f 0 5 rfl rfl
 have a0:=S2.c 1 0 rfl rfl
 have a1:=S2.c 1 1 rfl rfl
 have a2:=S2.c 1 2 rfl rfl
 have a3:=S2.c 1 3 rfl rfl
 have a4:=S2.c 1 4 rfl rfl
 have a5:=S2.c 1 5 rfl rfl
 have b0:=S2.c 0 0 rfl rfl
 have b1:=S2.c 0 1 rfl rfl
 have b2:=S2.c 0 2 rfl rfl
 have b3:=S2.c 0 3 rfl rfl
 have b4:=S2.c 0 4 rfl rfl
 have b5:=S2.c 0 5 rfl rfl
 have S9:=(S2.set 1 5 (.slice B1 m d1) rfl (by simp) (Nat.le_refl _) (by simp) _ rfl).set6 o s ag ov (.slice A1 n c1) (.slice B1 m d1) (by omega) (by simp)
 have o3:=own_set6 (ownsRow_setCell_below (a:=⟨w.heap.size,5,none⟩) o1 (by simp only; omega) (.slice B1 m d1)) (g:=w.heap.size + 1) (by omega) (.int .i64 o) (.int .i64 s) (.int .i64 ag) (.bool ov) (.slice A1 n c1) (.slice B1 m d1)
 have o4:=own_set6 (ownsRow_setCell_below (a:=⟨w.heap.size,5,none⟩) o2 (by simp only; omega) (.slice B1 m d1)) (g:=w.heap.size + 1) (by omega) (.int .i64 o) (.int .i64 s) (.int .i64 ag) (.bool ov) (.slice A1 n c1) (.slice B1 m d1)
 have hf:=hfin.out _ _ _ _ _ (own_mono o3 (by omega)) (own_mono o4 (by omega))
 have hb9:=S9.b
 go_wp2_with fail
 exact bodyPost_ret (v:=laV o s ag ov A1 n c1 B1 m d1) (by simp [results,Tryz.results105,go_sem,b0,b1,b2,b3,b4,b5]) rfl ⟨_,rfl,hf,hb9⟩
structure Hd where
 x:La
 l:Int
abbrev Db:=Nat → Option Hd
abbrev hdV (x:La) (A:Option Addr) (c:Nat) (B:Option Addr) (d:Nat) (l:Int):Value:=.agg #[.int .i64 x.o,.int .i64 x.s,.int .i64 x.a,.bool x.ov,.slice A x.adj.length c,.slice B x.pre.length d,.int .i64 l]
def TyA (w:World) (A:Option Addr) (n:Nat) (e:TypeId):Prop:=0 < n → ∀ ad,A = some ad → ∃ cs fr,w.heap[ad.block]? = some (.cells cs e fr)
theorem TyA.keep {w w':World} {A:Option Addr} {n:Nat} {e:TypeId} (h:TyA w A n e) (hk:∀ ad,A = some ad → (w.heap[ad.block]?).isSome = true → (∃ cs fr,w.heap[ad.block]? = some (.cells cs e fr)) → w'.heap[ad.block]? = w.heap[ad.block]?):TyA w' A n e:=fun hn ad ha=>by
 obtain ⟨cs,fr,e⟩:=h hn ad ha
 exact ⟨cs,fr,(hk ad ha (by rw [e]; rfl) ⟨cs,fr,e⟩).trans e⟩
theorem heap_lt {w:World} {k:Nat} {o:Obj} (h:w.heap[k]? = some o):k < w.heap.size:=(Array.getElem?_eq_some_iff.1 h).1
theorem TyA.below {w w':World} {A:Option Addr} {n:Nat} {e:TypeId} (h:TyA w A n e) (hb:Below w.heap.size w w'):TyA w' A n e :=
 h.keep fun ad _ _ ⟨cs,fr,e⟩=>hb.block _ (heap_lt e)
def LaTy (w:World) (x:La) (A:Option Addr) (c:Nat) (B:Option Addr) (d:Nat):Prop:=LaAt w (laV x.o x.s x.a x.ov A x.adj.length c B x.pre.length d) x ∧ TyA w A x.adj.length 169 ∧ TyA w B x.pre.length 181
theorem LaTy.below {w w':World} {x:La} {A:Option Addr} {c:Nat} {B:Option Addr} {d:Nat} (h:LaTy w x A c B d) (hb:Below w.heap.size w w'):LaTy w' x A c B d:=⟨LaAt.below h.1 hb,h.2.1.below hb,h.2.2.below hb⟩
theorem LaTy.renum {w:World} {x:La} {A:Option Addr} {c:Nat} {B:Option Addr} {d:Nat} (h:LaTy w x A c B d) (o' s' a':Int) (ov':Bool):LaTy w ⟨o',s',a',ov',x.adj,x.pre⟩ A c B d:=⟨LaAt.renum h.1 o' s' a' ov',h.2.1,h.2.2⟩
theorem own_ty {w:World} {base:Nat} {e:TypeId} {size:Nat} {A:Option Addr} {n c:Nat} {xs:List Value} (h:w.ownsRow base e size (.slice A n c) n xs):TyA w A n e:=fun hn ad ha=>by
 rcases h.2 with ⟨h2,h3⟩ | ⟨g,cap,cur,h2,hgb,hh,r⟩
 ·omega
 ·injection h2 with h2 _ _
  rw [ha] at h2
  injection h2 with h2
  subst h2
  exact ⟨_,_,hh⟩
theorem LaOwn.ty {w:World} {base:Nat} {v:Value} {x:La} (h:LaOwn w base v x):∃ A c B d,v = laV x.o x.s x.a x.ov A x.adj.length c B x.pre.length d ∧ Hid (∀ W',Below w.heap.size w W' → LaTy W' x A c B d):=by
 have ha:=h.at
 obtain ⟨A,c,B,d,rfl,o1,o2,hu⟩:=h
 exact ⟨A,c,B,d,rfl,fun W' hb=>⟨ha.below hb,(own_ty o1).below hb,(own_ty o2).below hb⟩⟩
def ElAt (w:World):Option Value → Option Hd → Prop
 | none,none=>True
 | some v,some h=>∃ A c B d,v = hdV h.x A c B d h.l ∧ LaTy w h.x A c B d
 | _,_=>False
theorem ElAt.below {w w':World} {v:Option Value} {h:Option Hd} (he:ElAt w v h) (hb:Below w.heap.size w w'):ElAt w' v h:=by
 match v,h,he with
 | none,none,_=>trivial
 | some v,some h,⟨A,c,B,d,e,hl⟩=>exact ⟨A,c,B,d,e,hl.below hb⟩
theorem Rd.keptMap {w w':World} {A:Option Addr} {xs:List Value} {b:Nat} {M:Int → Option Value} (h:Rd w A xs) (hm:MapIs w b M) (hg:w.grownBy w' (some b)):Rd w' A xs:=by
 intro hn
 obtain ⟨ad,e,hb⟩:=h.block hn
 obtain ⟨ad',e',hc⟩:=h hn
 rw [e] at e'
 injection e' with e'
 subst e'
 refine ⟨ad,e,fun j u hu=>?_⟩
 have hcell:=hc j u hu
 have hne:(ad.add j).block ≠ b:=fun e2=>by
  have:=hm.no_cell (ad.add j).off (ad.add j).spot
  rw [← e2] at this
  rw [show (⟨(ad.add j).block,(ad.add j).off,(ad.add j).spot⟩:Addr) = ad.add j from rfl,hcell] at this
  cases this
 rw [World.cell?_of_block (hg.block _ (World.block_lt_of_cell? _ _ hcell) (fun e2=>hne (by injection e2)))]
 exact hcell
theorem LaAt.keptMap {w w':World} {v:Value} {x:La} {b:Nat} {M:Int → Option Value} (h:LaAt w v x) (hm:MapIs w b M) (hg:w.grownBy w' (some b)):LaAt w' v x:=by
 obtain ⟨A,c,B,d,rfl,h1,h2,h3⟩:=h
 exact ⟨A,c,B,d,rfl,h1.keptMap hm hg,h2.keptMap hm hg,h3⟩
theorem LaTy.keptMap {w w':World} {x:La} {A:Option Addr} {c:Nat} {B:Option Addr} {d:Nat} {b:Nat} {M:Int → Option Value} (h:LaTy w x A c B d) (hm:MapIs w b M) (hg:w.grownBy w' (some b)):LaTy w' x A c B d:=by
 have key:∀ {A:Option Addr} {n:Nat} {e:TypeId},TyA w A n e → TyA w' A n e:=fun {A n e} h=>h.keep fun ad _ _ ⟨cs,fr,e2⟩=>hg.block _ (heap_lt e2) (fun e3=>by
  injection e3 with e3
  obtain ⟨D,⟨es,clock,hb,_⟩,_⟩:=hm
  rw [e3,hb] at e2
  cases e2)
 exact ⟨LaAt.keptMap h.1 hm hg,key h.2.1,key h.2.2⟩
theorem ElAt.keptMap {w w':World} {v:Option Value} {h:Option Hd} {b:Nat} {M:Int → Option Value} (he:ElAt w v h) (hm:MapIs w b M) (hg:w.grownBy w' (some b)):ElAt w' v h:=by
 match v,h,he with
 | none,none,_=>trivial
 | some v,some h,⟨A,c,B,d,e,hl⟩=>exact ⟨A,c,B,d,e,hl.keptMap hm hg⟩
structure DbAt (w:World) (g b:Nat) (N:Db):Prop where
 ex:∃ M,MapIs w b M ∧ ∀ i:Nat,i < 64 → ElAt w (M (i:Int)) (N i)
 cell:w.cell? ⟨g,0,none⟩ = some (.map (some b))
theorem DbAt.below {w w':World} {g b:Nat} {N:Db} (h:DbAt w g b N) (hb:Below w.heap.size w w'):DbAt w' g b N:=by
 obtain ⟨⟨M,hm,he⟩,hc⟩:=h
 exact ⟨⟨M,hm.below hb,fun i hi=>(he i hi).below hb⟩,cell_later hb hc⟩
theorem DbAt.lt {w:World} {g b:Nat} {N:Db} (h:DbAt w g b N):g < w.heap.size ∧ b < w.heap.size:=by
 obtain ⟨⟨M,hm,_⟩,hc⟩:=h
 exact ⟨World.block_lt_of_cell? _ _ hc,hm.lt⟩
theorem DbAt.ne {w:World} {g b:Nat} {N:Db} (h:DbAt w g b N):g ≠ b:=fun e=>by
 obtain ⟨⟨M,hm,_⟩,hc⟩:=h
 rw [e,hm.no_cell] at hc
 cases hc
theorem DbAt.put {w w':World} {g b:Nat} {N:Db} {M:Int → Option Value} (hm:MapIs w b M) (he:∀ i:Nat,i < 64 → ElAt w (M (i:Int)) (N i)) (hc:w.cell? ⟨g,0,none⟩ = some (.map (some b))) (hgb:g ≠ b) (k:Nat) (hk:k < 64) (v:Option Value) (h:Option Hd) (hv:ElAt w v h)
  (hm':MapIs w' b (fun j=>if j = (k:Int) then v else M j)) (hg:w.grownBy w' (some b)):DbAt w' g b (fun i=>if i = k then h else N i):=by
 refine ⟨⟨_,hm',fun i hi=>?_⟩,?_⟩
 ·by_cases e:i = k
  ·subst e; simp only [if_true]; exact hv.keptMap hm hg
  ·have e':¬ (i:Int) = (k:Int):=by omega
   simp only [if_neg e,if_neg e']
   exact (he i hi).keptMap hm hg
 ·rw [World.cell?_of_block (a:=⟨g,0,none⟩) (hg.block g (World.block_lt_of_cell? _ _ hc) (fun e=>hgb (by injection e)))]
  exact hc
set_option maxRecDepth 100000 in
set_option maxHeartbeats 1600000 in
theorem dnew_any (w:World):Calls Tryz.prog 35 #[] w fun e w'=>e = .returned (.pointer (some ⟨w.heap.size + 1,0,none⟩)) ∧ DbAt w' (w.heap.size + 1) w.heap.size (fun _=>none) ∧ Below w.heap.size w w':=by
 have hfin:DbAt ((w.alloc (.map #[] 0)).alloc (.cells #[.map (some w.heap.size)] 159)) (w.heap.size + 1) w.heap.size (fun _=>none):=by
  have hb:=below_new' (w.alloc (.map #[] 0)) (.cells #[.map (some w.heap.size)] 159)
  refine ⟨⟨_,(MapIs.made w).below hb,fun i hi=>trivial⟩,?_⟩
  simp
 have hbl:Below w.heap.size w ((w.alloc (.map #[] 0)).alloc (.cells #[.map (some w.heap.size)] 159)):=(below_new' w _).trans ((below_new' _ _).mono (by simp))
 have hmm:=@run_makeMap Tryz.prog
 replace hfin:=Lib.hid hfin
 go_enter Tryz.func35,Tryz.ntmps35
 go_wp2_with fail
 go_ret
 exact ⟨rfl,hfin.out,hbl⟩
end Go.Proofs.YtehimhbgakpenaaGreat

namespace Go.Proofs.YtehimhbgakpenaaGreat
set_option linter.unusedVariables false
open Go.RowKit Go.Maps Go.Sort
theorem MapIs.run_ok {w:World} {b:Nat} {M:Int → Option Value} (h:MapIs w b M) {i:Int} (hi:(Lit.int .i64 i).wf = true) :
  (Instr.lookup 157 (.map (some b)) (.int .i64 i) true).run Tryz.prog w = .ok (.tuple #[(M i).getD hdZ,.bool (M i).isSome]) w:=by
 obtain ⟨D,hown,hd⟩:=h
 obtain ⟨v,ps,hrun,hv⟩:=hown.look_ok keyI Tryz.underlying157 (hdZero w) (zd:=.held hdZ) (zp:=[]) rfl (keyOfI hi)
 obtain rfl:v = (M i).getD hdZ:=by
  rw [hd.at_] at hv
  simp only [hdR,Option.some.injEq,Prod.mk.injEq,DataW.held.injEq] at hv
  exact hv.1
 rw [hd.has_] at hrun
 exact hrun
theorem MapIs.run_at {w:World} {b:Nat} {M:Int → Option Value} (h:MapIs w b M) {i:Int} (hi:(Lit.int .i64 i).wf = true) :
  (Instr.lookup 157 (.map (some b)) (.int .i64 i) false).run Tryz.prog w = .ok ((M i).getD hdZ) w:=by
 obtain ⟨D,hown,hd⟩:=h
 obtain ⟨v,ps,hrun,hv⟩:=hown.lookup keyI Tryz.underlying157 (hdZero w) (zd:=.held hdZ) (zp:=[]) rfl (keyOfI hi)
 obtain rfl:v = (M i).getD hdZ:=by
  rw [hd.at_] at hv
  simp only [hdR,Option.some.injEq,Prod.mk.injEq,DataW.held.injEq] at hv
  exact hv.1
 exact hrun
theorem MapIs.drew {w:World} {b:Nat} {M:Int → Option Value} (h:MapIs w b M):MapIs w.drew b M:=h
theorem eqlSome (bm:Nat) (w:World):(binOp .eql 157 (.map (some bm)) (.map none)).run Tryz.prog w = .ok (.bool false) w:=by kernel_rfl
theorem below_row {w w':World} (hb:Below w.heap.size w w') (row:Option Nat):w.grownBy w' row:=⟨hb.os,hb.tape,hb.output,hb.size,fun k hk _=>hb.block k hk⟩
theorem MapIs.run_put {w:World} {b:Nat} {M:Int → Option Value} (h:MapIs w b M) {i:Int} (h0:0 ≤ i) (h1:i ≤ 63) (u:Value) :
  ∃ w',(Instr.mapUpdate 157 (.map (some b)) (.int .i64 i) u).run Tryz.prog w = .ok () w' ∧ MapIs w' b (fun j=>if j = i then some u else M j) ∧ w.grownBy w' (some b):=by
 obtain ⟨D,hown,hd⟩:=h
 obtain ⟨w',hrun,r1,r2⟩:=hown.update keyI Tryz.underlying157 (by unfold maxLen; omega) (keyOfI (wf64 h0 (by omega))) (val:=u) (d:=.held u) (ps:=[]) rfl
 exact ⟨w',hrun,.of r1 (hd.put hown.isMap h0 h1 u),r2⟩
noncomputable def instR (N:Db) (a:La):Int:=if vB a = true then match N a.o.toNat with | some h=>if newI a h.x = 0 then 2 else if newI a h.x = -1 then 3 else 1 | none=>1 else 0
noncomputable def instE (a:La):Int:=if vB a = true then 0 else 1
noncomputable def instN (N:Db) (a:La):Db:=if vB a = true ∧ instR N a = 1 then fun i=>if i = a.o.toNat then some ⟨a,60⟩ else N i else N
def InstPost (w:World) (g b:Nat) (N:Db) (a:La) (e:Ending) (w':World):Prop :=
 e = .returned (.tuple #[.int .i64 (instR N a),.int .i64 (instE a)]) ∧ DbAt w' g b (instN N a) ∧ w.grownBy w' (some b)
set_option maxRecDepth 100000 in
set_option maxHeartbeats 6400000 in
theorem dinstall_any (w:World) (g b:Nat) (N:Db) (v:Value) (a:La) (h:DbAt w g b N) (hv:LaAt w v a):Calls Tryz.prog 120 #[.pointer (some ⟨g,0,none⟩),v] w (InstPost w g b N a):=by
 obtain ⟨A,c,B,d,rfl,hl⟩:=hv.opened
 clear hv
 have S:=(St.start w).new' #[.int .i64 a.o,.int .i64 a.s,.int .i64 a.a,.bool a.ov,.slice A a.adj.length c,.slice B a.pre.length d] 41 w.heap.size _ rfl rfl
 have V:=fun W hb=>valid_at W _ a (hl.below hb)
 have hpost:Hid (∀ r er N' e w',instR N a = r → instE a = er → instN N a = N' → e = Ending.returned (.tuple #[.int .i64 r,.int .i64 er]) → DbAt w' g b N' → w.grownBy w' (some b) → InstPost w g b N a e w'):=fun r er N' e w' h1 h2 h3 h4 h5 h6=>by subst h1 h2 h3; exact ⟨h4,h5,h6⟩
 rcases hvb:vB a with _ | _
 ·have e1:instR N a = 0:=by unfold instR; rw [hvb,if_neg (by simp)]
  have e2:instE a = 1:=by unfold instE; rw [hvb,if_neg (by simp)]
  have e3:instN N a = N:=by unfold instN; rw [hvb,if_neg (by simp)]
  rw [hvb] at V
  replace V:=Lib.hid V
  have hfin:Hid (∀ w',Below w.heap.size w w' → DbAt w' g b N ∧ w.grownBy w' (some b)):=fun w' hb=>⟨h.below hb,⟨hb.os,hb.tape,hb.output,hb.size,fun k hk _=>hb.block k hk⟩⟩
  replace e1:=Lib.hid e1
  replace e2:=Lib.hid e2
  replace e3:=Lib.hid e3
  clear h hl hvb
  have a0:=S.c 0 0 rfl rfl
  have a1:=S.c 0 1 rfl rfl
  have a2:=S.c 0 2 rfl rfl
  have a3:=S.c 0 3 rfl rfl
  have a4:=S.c 0 4 rfl rfl
  have a5:=S.c 0 5 rfl rfl
  go_enter Tryz.func120,Tryz.ntmps120
  go_wp2_with fail
  (with_reducible refine (V.out _ S.b).mono ?_)
  rintro e w1 ⟨rfl,hb⟩
  clear a0 a1 a2 a3 a4 a5
  replace S:=S.call hb
  obtain ⟨f1,f2⟩:=hfin.out _ S.b
  go_wp2_with fail
  go_ret2
  exact hpost.out _ _ _ _ _ e1.out e2.out e3.out rfl f1 f2
 have hva:=vB_iff.1 hvb
 have ho:=hva.1
 have hadj:=hva.2.2.2.1
 have hpre:=hva.2.2.2.2.1
 obtain ⟨k,hk⟩:=Int.eq_ofNat_of_zero_le ho.1
 have e2:instE a = 0:=by unfold instE; rw [hvb,if_pos rfl]
 rw [hvb] at V
 replace V:=Lib.hid V
 obtain ⟨⟨M,hm,he⟩,hc⟩:=id h
 have hek:=he k (by omega)
 have hgb:=h.ne
 have C:=fun W hb=>dclone_any W _ a (hl.below hb) (by omega) (by omega)
 replace C:=Lib.hid C
 replace hk:Hid (a.o = (k:Int)):=hk
 replace e2:=Lib.hid e2
 have hwf:(Lit.int .i64 a.o).wf = true:=wf64 ho.1 (by omega)
 have hfin:Hid (∀ w',Below w.heap.size w w' → DbAt w' g b N ∧ w.grownBy w' (some b)):=fun w' hb=>⟨h.below hb,⟨hb.os,hb.tape,hb.output,hb.size,fun k hk _=>hb.block k hk⟩⟩
 have a0:=S.c 0 0 rfl rfl
 have a1:=S.c 0 1 rfl rfl
 have a2:=S.c 0 2 rfl rfl
 have a3:=S.c 0 3 rfl rfl
 have a4:=S.c 0 4 rfl rfl
 have a5:=S.c 0 5 rfl rfl
 go_enter Tryz.func120,Tryz.ntmps120
 go_wp2_with fail
 (with_reducible refine (V.out _ S.b).mono ?_)
 rintro e w1 ⟨rfl,hb⟩
 clear a0 a1 a2 a3 a4 a5
 replace S:=S.call hb
 clear V hb
 have hm1:=hm.below S.b
 have hc1:=cell_later S.b hc
 generalize hMv:(M a.o).getD hdZ = u at *
 generalize hMs:(M a.o).isSome = ok at *
 have b2:=below_new' w1 (.cells #[.int .i64 0,.int .i64 0,.int .i64 0,.bool false,.slice none 0 0,.slice none 0 0,.int .i64 0] 206)
 have L1:=(hm1.drew).run_ok hwf
 have L2:=(hm1.below b2).drew.run_ok hwf
 have T:=S.drew
 have T2:=(S.alloc (.cells #[.int .i64 0,.int .i64 0,.int .i64 0,.bool false,.slice none 0 0,.slice none 0 0,.int .i64 0] 206)).drew
 have c1:w1.drew.cell? ⟨g,0,none⟩ = some (.map (some b)):=hc1
 have c2:(w1.alloc (.cells #[.int .i64 0,.int .i64 0,.int .i64 0,.bool false,.slice none 0 0,.slice none 0 0,.int .i64 0] 206)).drew.cell? ⟨g,0,none⟩ = some (.map (some b)):=(by have:=cell_later b2 hc1; exact this)
 rw [hMv,hMs] at L1 L2
 have hu:∃ u0 u1 u2 u3 A9 n9 c9 B9 m9 d9 u6,u = .agg #[.int .i64 u0,.int .i64 u1,.int .i64 u2,.bool u3,.slice A9 n9 c9,.slice B9 m9 d9,.int .i64 u6]:=by
  rw [← hMv]
  cases hM:M a.o with
  | none=>exact ⟨_,_,_,_,_,_,_,_,_,_,_,rfl⟩
  | some vv =>
    rw [← hk.out,hM] at hek
    cases hN:N k with
    | none=>rw [hN] at hek; exact hek.elim
    | some hh =>
      rw [hN] at hek
      obtain ⟨A9,c9,B9,d9,rfl,_⟩:=hek
      exact ⟨_,_,_,_,_,_,_,_,_,_,_,rfl⟩
 obtain ⟨u0,u1,u2,u3,A9,n9,c9,B9,m9,d9,u6,rfl⟩:=hu
 replace hMv:=Lib.hid hMv
 replace hMs:=Lib.hid hMs
 have a0:=T.c 0 0 rfl rfl
 have a1:=T.c 0 1 rfl rfl
 have a2:=T.c 0 2 rfl rfl
 have a3:=T.c 0 3 rfl rfl
 have a4:=T.c 0 4 rfl rfl
 have a5:=T.c 0 5 rfl rfl
 have r0:=T2.c 0 0 rfl rfl
 have r1:=T2.c 0 1 rfl rfl
 have r2:=T2.c 0 2 rfl rfl
 have r3:=T2.c 0 3 rfl rfl
 have r4:=T2.c 0 4 rfl rfl
 have r5:=T2.c 0 5 rfl rfl
 go_upto_region 5 with fail
 go_cut [6,7] (fun v6 v7 wx=>v6 = .pointer (some ⟨w1.heap.size,0,none⟩) ∧ v7 = .bool ok ∧ wx = (w1.alloc (.cells #[.int .i64 u0,.int .i64 u1,.int .i64 u2,.bool u3,.slice A9 n9 c9,.slice B9 m9 d9,.int .i64 u6] 206)).drew)
 case first =>
  go_region_law (fail)
  all_goals
   go_wp2_with fail
   go_meet
   exact ⟨rfl,rfl,rfl⟩
 case rest =>
  obtain ⟨rfl,rfl,rfl⟩:=hcut
  clear a0 a1 a2 a3 a4 a5
  clear r0 r1 r2 r3 r4 r5
  clear T T2 L1 L2 c1 c2 b2
  have b3:=below_new' w1 (.cells #[.int .i64 u0,.int .i64 u1,.int .i64 u2,.bool u3,.slice A9 n9 c9,.slice B9 m9 d9,.int .i64 u6] 206)
  have S2:=(S.new' #[.int .i64 u0,.int .i64 u1,.int .i64 u2,.bool u3,.slice A9 n9 c9,.slice B9 m9 d9,.int .i64 u6] 206 w1.heap.size _ rfl rfl).drew
  have hm2:=(hm1.below b3).drew
  have c2:(w1.alloc (.cells #[.int .i64 u0,.int .i64 u1,.int .i64 u2,.bool u3,.slice A9 n9 c9,.slice B9 m9 d9,.int .i64 u6] 206)).drew.cell? ⟨g,0,none⟩ = some (.map (some b)):=(by have:=cell_later b3 hc1; exact this)
  clear S b3
  generalize (w1.alloc _).drew = w2 at *
  generalize w1.heap.size = g2 at *
  have L0:=hMs
  cases ok with
  | false =>
    have hNk:N k = none:=by
     have hMn:M a.o = none:=by have:=hMs.out; simpa using this
     rw [← hk.out,hMn] at hek
     cases hN:N k with
     | none=>rfl
     | some hh=>rw [hN] at hek; exact hek.elim
    have e1:instR N a = 1:=by unfold instR; rw [hvb,if_pos rfl,hk.out,Int.toNat_natCast,hNk]
    have S3:=S2
    have c0:=c2
    have e3:instN N a = fun i=>if i = a.o.toNat then some ⟨a,60⟩ else N i:=by unfold instN; rw [if_pos ⟨hvb,e1⟩]
    replace e1:=Lib.hid e1
    replace e3:=Lib.hid e3
    clear hMv hMs L0 hek
    have eqs:=eqlSome b
    go_upto_region 14 with fail
    have T:=S3.drew
    have c1:=c0
    replace c1:World.cell? (World.drew _) ⟨g,0,none⟩ = some (.map (some b)):=c1
    have a0:=T.c 1 0 rfl rfl
    have a1:=T.c 1 1 rfl rfl
    have a2:=T.c 1 2 rfl rfl
    have a3:=T.c 1 3 rfl rfl
    have a4:=T.c 1 4 rfl rfl
    have a5:=T.c 1 5 rfl rfl
    have tok1:True:=trivial
    go_region_law
     (first
      | (clear tok1; rw [if_pos (by simp [Region.wanted])]; go_simp; (with_reducible refine (C.out _ T.b).mono ?_); rintro e wa ⟨va,rfl,hown,hba⟩; obtain ⟨A5,c5,B5,d5,rfl,hL5⟩:=hown.ty; dsimp only; replace T:=T.call hba; replace c1:=cell_later hba c1; have a0:=T.c 1 0 rfl rfl; obtain ⟨w9,run9,hm9,hg9⟩:=(hm.below T.b).run_put ho.1 ho.2 (hdV a A5 c5 B5 d5 60)))
    all_goals
     have hdb:DbAt w9 g b (fun i=>if i = k then some ⟨a,60⟩ else N i):=DbAt.put (hm.below T.b) (fun i hi=>(he i hi).below T.b) c1 hgb k (by have:=hk.out; omega) (some (hdV a A5 c5 B5 d5 60)) (some ⟨a,60⟩) ⟨A5,c5,B5,d5,rfl,hL5.out _ (Below.refl _ _)⟩ (by rw [← hk.out]; exact hm9) hg9
     have hgr:w.grownBy w9 (some b):=(below_row T.b _).trans hg9
     have hN9:instN N a = fun i=>if i = k then some ⟨a,60⟩ else N i:=by rw [e3.out,hk.out]; rfl
     replace hN9:=Lib.hid hN9
     clear e3 hm9 hg9 T c1 run9
     go_wp2_with fail
     go_ret2
     exact hpost.out _ _ _ _ _ e1.out e2.out hN9.out rfl hdb hgr
  | true =>
    obtain ⟨hh,hNk,hu,hlx⟩:∃ hh,N k = some hh ∧ (.agg #[.int .i64 u0,.int .i64 u1,.int .i64 u2,.bool u3,.slice A9 n9 c9,.slice B9 m9 d9,.int .i64 u6]:Value) = hdV hh.x A9 c9 B9 d9 hh.l ∧ LaAt w (laV hh.x.o hh.x.s hh.x.a hh.x.ov A9 hh.x.adj.length c9 B9 hh.x.pre.length d9) hh.x:=by
     rw [hk.out] at hMs hMv
     cases hM:M (k:Int) with
     | none=>have:=hMs.out; rw [hM] at this; cases this
     | some vv =>
       rw [hM] at hek
       cases hN:N k with
       | none=>rw [hN] at hek; exact hek.elim
       | some hh =>
         rw [hN] at hek
         obtain ⟨A8,c8,B8,d8,rfl,hla⟩:=hek
         have hv:=hMv.out
         rw [hM] at hv
         simp only [Option.getD_some,Value.agg.injEq,Array.mk.injEq,List.cons.injEq,Value.slice.injEq,Value.int.injEq,Value.bool.injEq,true_and,and_true] at hv
         obtain ⟨rfl,rfl,rfl,rfl,⟨rfl,rfl,rfl⟩,⟨rfl,rfl,rfl⟩,rfl⟩:=hv
         exact ⟨hh,rfl,rfl,hla.1⟩
    simp only [Value.agg.injEq,Array.mk.injEq,List.cons.injEq,Value.slice.injEq,Value.int.injEq,Value.bool.injEq,true_and,and_true] at hu
    obtain ⟨rfl,rfl,rfl,rfl,rfl,rfl,rfl⟩:=hu
    have NW:=lnewer_any w2 _ _ a hh.x (hl.below S2.b) (hlx.below S2.b)
    obtain ⟨z,hz⟩:∃ z,newI a hh.x = z:=⟨_,rfl⟩
    rw [hz] at NW
    replace NW:=Lib.hid NW
    have a0:=S2.c 1 0 rfl rfl
    have a1:=S2.c 1 1 rfl rfl
    have a2:=S2.c 1 2 rfl rfl
    have a3:=S2.c 1 3 rfl rfl
    have a4:=S2.c 1 4 rfl rfl
    have a5:=S2.c 1 5 rfl rfl
    have r0:=S2.c 0 0 rfl rfl
    have r1:=S2.c 0 1 rfl rfl
    have r2:=S2.c 0 2 rfl rfl
    have r3:=S2.c 0 3 rfl rfl
    have r4:=S2.c 0 4 rfl rfl
    have r5:=S2.c 0 5 rfl rfl
    go_wp2_with fail
    (with_reducible refine (NW.out).mono ?_)
    rintro e w3 ⟨rfl,hb⟩
    clear a0 a1 a2 a3 a4 a5
    clear r0 r1 r2 r3 r4 r5
    have S3:=S2.call hb
    have c0:=cell_later hb c2
    clear NW hb S2
    have hR:instR N a = if z = 0 then 2 else if z = -1 then 3 else 1:=by unfold instR; rw [hvb,if_pos rfl,hk.out,Int.toNat_natCast,hNk]; simp only [hz]
    by_cases hz0:z = 0
    ·subst hz0
     have e1:instR N a = 2:=by rw [hR,if_pos rfl]
     have e3:instN N a = N:=by unfold instN; rw [e1,if_neg (by simp)]
     obtain ⟨f1,f2⟩:=hfin.out _ S3.b
     replace e1:=Lib.hid e1
     replace e3:=Lib.hid e3
     clear hR hz hNk
     go_wp2_with fail
     go_ret2
     exact hpost.out _ _ _ _ _ e1.out e2.out e3.out rfl f1 f2
    by_cases hz1:z = -1
    ·subst hz1
     have e1:instR N a = 3:=by rw [hR,if_neg (by omega),if_pos rfl]
     have e3:instN N a = N:=by unfold instN; rw [e1,if_neg (by simp)]
     obtain ⟨f1,f2⟩:=hfin.out _ S3.b
     replace e1:=Lib.hid e1
     replace e3:=Lib.hid e3
     clear hR hz hNk hz0
     go_wp2_with fail
     go_ret2
     exact hpost.out _ _ _ _ _ e1.out e2.out e3.out rfl f1 f2
    have e1:instR N a = 1:=by rw [hR,if_neg hz0,if_neg hz1]
    have z0:(z == 0) = false:=by simpa using hz0
    have z1:(z == -1) = false:=by simpa using hz1
    clear hR hz hNk hz0 hz1
    have e3:instN N a = fun i=>if i = a.o.toNat then some ⟨a,60⟩ else N i:=by unfold instN; rw [if_pos ⟨hvb,e1⟩]
    replace e1:=Lib.hid e1
    replace e3:=Lib.hid e3
    clear hMv hMs L0 hek
    have eqs:=eqlSome b
    go_upto_region 14 with fail
    have T:=S3.drew
    have c1:=c0
    replace c1:World.cell? (World.drew _) ⟨g,0,none⟩ = some (.map (some b)):=c1
    have a0:=T.c 1 0 rfl rfl
    have a1:=T.c 1 1 rfl rfl
    have a2:=T.c 1 2 rfl rfl
    have a3:=T.c 1 3 rfl rfl
    have a4:=T.c 1 4 rfl rfl
    have a5:=T.c 1 5 rfl rfl
    have tok1:True:=trivial
    go_region_law
     (first
      | (clear tok1; rw [if_pos (by simp [Region.wanted])]; go_simp; (with_reducible refine (C.out _ T.b).mono ?_); rintro e wa ⟨va,rfl,hown,hba⟩; obtain ⟨A5,c5,B5,d5,rfl,hL5⟩:=hown.ty; dsimp only; replace T:=T.call hba; replace c1:=cell_later hba c1; have a0:=T.c 1 0 rfl rfl; obtain ⟨w9,run9,hm9,hg9⟩:=(hm.below T.b).run_put ho.1 ho.2 (hdV a A5 c5 B5 d5 60)))
    all_goals
     have hdb:DbAt w9 g b (fun i=>if i = k then some ⟨a,60⟩ else N i):=DbAt.put (hm.below T.b) (fun i hi=>(he i hi).below T.b) c1 hgb k (by have:=hk.out; omega) (some (hdV a A5 c5 B5 d5 60)) (some ⟨a,60⟩) ⟨A5,c5,B5,d5,rfl,hL5.out _ (Below.refl _ _)⟩ (by rw [← hk.out]; exact hm9) hg9
     have hgr:w.grownBy w9 (some b):=(below_row T.b _).trans hg9
     have hN9:instN N a = fun i=>if i = k then some ⟨a,60⟩ else N i:=by rw [e3.out,hk.out]; rfl
     replace hN9:=Lib.hid hN9
     clear e3 hm9 hg9 T c1 run9
     go_wp2_with fail
     go_ret2
     exact hpost.out _ _ _ _ _ e1.out e2.out hN9.out rfl hdb hgr
end Go.Proofs.YtehimhbgakpenaaGreat

namespace Go.Proofs.YtehimhbgakpenaaGreat
set_option linter.unusedVariables false
open Go.RowKit Go.Maps Go.Sort
def getO (N:Db) (i:Int):Option Hd:=if 0 ≤ i ∧ i < 64 then N i.toNat else none
def getX (o:Option Hd):La:=match o with | some h=>h.x | none=>laZero
def Few33 (N:Db):Prop:=∀ i h,N i = some h → h.x.adj.length ≤ 1000000 ∧ h.x.pre.length ≤ 1000000
theorem elem_form {w:World} {g b:Nat} {N:Db} (h:DbAt w g b N) (hf:Few33 N) (i:Int):∃ M,MapIs w b M ∧ (M i).isSome = (getO N i).isSome ∧ (∃ A c B d l,(M i).getD hdZ = hdV (getX (getO N i)) A c B d l ∧ LaAt w (laV (getX (getO N i)).o (getX (getO N i)).s (getX (getO N i)).a (getX (getO N i)).ov A (getX (getO N i)).adj.length c B (getX (getO N i)).pre.length d) (getX (getO N i))) ∧
  (getX (getO N i)).adj.length ≤ 1000000 ∧ (getX (getO N i)).pre.length ≤ 1000000:=by
 obtain ⟨⟨M,hm,he⟩,hc⟩:=h
 refine ⟨M,hm,?_⟩
 by_cases hi:0 ≤ i ∧ i < 64
 ·have e1:getO N i = N i.toNat:=by unfold getO; rw [if_pos hi]
  have hei:=he i.toNat (by omega)
  rw [Int.toNat_of_nonneg hi.1] at hei
  rw [e1]
  cases hM:M i with
  | none =>
    rw [hM] at hei
    cases hN:N i.toNat with
    | none=>exact ⟨rfl,⟨none,0,none,0,0,rfl,(laZero_own w w.heap.size).at⟩,by simp [getX,laZero],by simp [getX,laZero]⟩
    | some hh=>rw [hN] at hei; exact hei.elim
  | some v =>
    rw [hM] at hei
    cases hN:N i.toNat with
    | none=>rw [hN] at hei; exact hei.elim
    | some hh =>
      rw [hN] at hei
      obtain ⟨A,c,B,d,rfl,hl⟩:=hei
      exact ⟨rfl,⟨A,c,B,d,hh.l,rfl,hl.1⟩,(hf _ _ hN).1,(hf _ _ hN).2⟩
 ·have e1:getO N i = none:=by unfold getO; rw [if_neg hi]
  have hM:M i = none:=by
   cases h2:M i with
   | none=>rfl
   | some v=>exact absurd (hm.small (i:=i) (by rw [h2]; rfl)) (by omega)
  rw [e1,hM]
  exact ⟨rfl,⟨none,0,none,0,0,rfl,(laZero_own w w.heap.size).at⟩,by simp [getX,laZero],by simp [getX,laZero]⟩
def GetPost (w:World) (o:Option Hd) (e:Ending) (w':World):Prop :=
 ∃ v,e = .returned (.tuple #[v,.bool o.isSome]) ∧ LaOwn w' w.heap.size v (getX o) ∧ Below w.heap.size w w'
set_option maxRecDepth 100000 in
set_option maxHeartbeats 3200000 in
theorem dget_any (w:World) (g b:Nat) (N:Db) (i:Int) (hi:(Lit.int .i64 i).wf = true) (h:DbAt w g b N) (hf:Few33 N):Calls Tryz.prog 92 #[.pointer (some ⟨g,0,none⟩),.int .i64 i] w (GetPost w (getO N i)):=by
 obtain ⟨M,hm,hs,⟨A,c,B,d,l,hv,hl⟩,hb1,hb2⟩:=elem_form h hf i
 have hc:=h.cell
 generalize hG:getO N i = G at *
 have S:=(St.start w).new' #[.int .i64 0,.int .i64 0,.int .i64 0,.bool false,.slice none 0 0,.slice none 0 0] 41 w.heap.size _ rfl rfl
 have hc1:=cell_later S.b hc
 have L:=(hm.below S.b).run_ok hi
 rw [hv,hs] at L
 unfold GetPost
 generalize G.isSome = ok at *
 generalize getX G = x at *
 have C:=fun W hb=>dclone_any W _ x (hl.below hb) hb1 hb2
 unfold hdV at L
 replace C:=Lib.hid C
 clear hl hv hm hs h hf hG hb1 hb2 hi
 have r0:=S.c 0 0 rfl rfl
 have r1:=S.c 0 1 rfl rfl
 have r2:=S.c 0 2 rfl rfl
 have r3:=S.c 0 3 rfl rfl
 have r4:=S.c 0 4 rfl rfl
 have r5:=S.c 0 5 rfl rfl
 go_enter Tryz.func92,Tryz.ntmps92
 go_upto_region 4 with fail
 have S2:=S.new' #[.int .i64 x.o,.int .i64 x.s,.int .i64 x.a,.bool x.ov,.slice A x.adj.length c,.slice B x.pre.length d,.int .i64 l] 206 (w.heap.size + 1) _ (by simp) rfl
 clear r0 r1 r2 r3 r4 r5
 clear L hc1 S hc
 generalize World.alloc (World.alloc _ _) _ = w2 at *
 have a0:=S2.c 0 0 rfl rfl
 have a1:=S2.c 0 1 rfl rfl
 have a2:=S2.c 0 2 rfl rfl
 have a3:=S2.c 0 3 rfl rfl
 have a4:=S2.c 0 4 rfl rfl
 have a5:=S2.c 0 5 rfl rfl
 have a6:=S2.c 0 6 rfl rfl
 go_wp2_with fail
 (with_reducible refine (C.out _ S2.b).mono ?_)
 rintro e w3 ⟨v3,rfl,hown,hb⟩
 have T:=(S2.call hb).keepBoxes [(w.heap.size,[.int .i64 0,.int .i64 0,.int .i64 0,.bool false,.slice none 0 0,.slice none 0 0])] (by simp)
 have hsz:=S2.b.size
 have hlt:=S2.lt 1 rfl (by simp)
 obtain ⟨A1,c1,B1,d1,rfl,o1,o2,hu⟩:=hown
 clear a0 a1 a2 a3 a4 a5 a6
 clear S2 hb C
 have r0:=T.c 0 0 rfl rfl
 have r1:=T.c 0 1 rfl rfl
 have r2:=T.c 0 2 rfl rfl
 have r3:=T.c 0 3 rfl rfl
 have r4:=T.c 0 4 rfl rfl
 have r5:=T.c 0 5 rfl rfl
 have f0:=T.f 0 0 rfl rfl
 have f1:=T.f 0 1 rfl rfl
 have f2:=T.f 0 2 rfl rfl
 have f3:=T.f 0 3 rfl rfl
 have f4:=T.f 0 4 rfl rfl
 have f5:=T.f 0 5 rfl rfl
 have S9:=T.set6 x.o x.s x.a x.ov (.slice A1 x.adj.length c1) (.slice B1 x.pre.length d1) (Nat.le_refl _) (by simp)
 have q1:=own_set6 o1 hlt (.int .i64 x.o) (.int .i64 x.s) (.int .i64 x.a) (.bool x.ov) (.slice A1 x.adj.length c1) (.slice B1 x.pre.length d1)
 have q2:=own_set6 o2 hlt (.int .i64 x.o) (.int .i64 x.s) (.int .i64 x.a) (.bool x.ov) (.slice A1 x.adj.length c1) (.slice B1 x.pre.length d1)
 have hb9:=S9.b
 go_wp2_with fail
 exact bodyPost_ret (v:=.tuple #[laV x.o x.s x.a x.ov A1 x.adj.length c1 B1 x.pre.length d1,.bool ok]) (by simp [results,Tryz.results92,go_sem,r0,r1,r2,r3,r4,r5]) rfl ⟨_,rfl,⟨A1,c1,B1,d1,rfl,own_mono q1 (by omega),own_mono q2 (by omega),hu⟩,hb9⟩
end Go.Proofs.YtehimhbgakpenaaGreat

namespace Go.Proofs.YtehimhbgakpenaaGreat
set_option linter.unusedVariables false
open Go.RowKit Go.Maps Go.Sort
def tickH (n:Int) (h:Hd):Option Hd × Bool :=
 if h.x.a < 3600 then
  if n < 3600 - h.x.a then (some ⟨{ h.x with a:=h.x.a + n },h.l⟩,false)
  else (if 60 ≤ n - (3600 - h.x.a) then none else some ⟨purgeX h.x,60 - (n - (3600 - h.x.a))⟩,true)
 else (if h.l ≤ n then none else some ⟨h.x,h.l - n⟩,false)
def tickN (n:Int) (N:Db):Db:=fun i=>match N i with | some h=>(tickH n h).1 | none=>none
def expH (n:Int) (o:Option Hd):Bool:=match o with | some h=>(tickH n h).2 | none=>false
def orgs (N:Db):List Int:=((List.range 64).map fun (i:Nat)=>(i:Int)).filter fun i=>(N i.toNat).isSome
def tickL (n:Int) (N:Db):List Int:=(orgs N).filter fun i=>expH n (N i.toNat)
def DbOk (N:Db):Prop:=∀ i h,N i = some h → LaValid h.x ∧ h.x.o = (i:Int) ∧ 1 ≤ h.l ∧ h.l ≤ 60
theorem DbOk.few {N:Db} (h:DbOk N):Few33 N:=fun i x e=>by
 have:=(h i x e).1
 exact ⟨by have:=this.2.2.2.1; omega,by have:=this.2.2.2.2.1; omega⟩
theorem orgs_mem {N:Db} (i:Int):i ∈ orgs N ↔ (0 ≤ i ∧ i < 64) ∧ (N i.toNat).isSome = true:=by
 unfold orgs
 rw [List.mem_filter,List.mem_map]
 constructor
 ·rintro ⟨⟨k,hk,rfl⟩,h⟩
  exact ⟨⟨by omega,by have:=List.mem_range.1 hk; omega⟩,h⟩
 ·rintro ⟨⟨h0,h1⟩,h⟩
  exact ⟨⟨i.toNat,List.mem_range.2 (by omega),Int.toNat_of_nonneg h0⟩,h⟩
theorem orgs_sorted (N:Db):(orgs N).Pairwise (· < ·):=by
 unfold orgs
 refine List.Pairwise.filter _ ?_
 rw [List.pairwise_map]
 exact List.pairwise_lt_range.imp fun h=>by omega
theorem orgs_len (N:Db):(orgs N).length ≤ 64:=by
 unfold orgs
 refine Nat.le_trans (List.length_filter_le _ _) ?_
 simp
theorem keysL_orgs {w:World} {b:Nat} {M:Int → Option Value} {N:Db} (hm:MapIs w b M) (he:∀ i:Nat,i < 64 → ElAt w (M (i:Int)) (N i)):keysL M = orgs N:=by
 unfold keysL orgs
 refine List.filter_congr fun i hi=>?_
 obtain ⟨k,hk,rfl⟩:=List.mem_map.1 hi
 have:=he k (List.mem_range.1 hk)
 rw [Int.toNat_natCast]
 cases hM:M (k:Int) with
 | none =>
   rw [hM] at this
   cases hN:N k with
   | none=>rfl
   | some x=>rw [hN] at this; exact this.elim
 | some v =>
   rw [hM] at this
   cases hN:N k with
   | none=>rw [hN] at this; exact this.elim
   | some x=>rfl
def midN (n:Int) (N:Db) (k:Nat):Db:=fun j=>if (j:Int) ∈ (orgs N).take k then tickN n N j else N j
theorem midN_zero (n:Int) (N:Db):midN n N 0 = N:=by funext j; simp [midN]
theorem midN_end (n:Int) (N:Db) (hN:∀ i,64 ≤ i → N i = none):midN n N (orgs N).length = tickN n N:=by
 funext j
 unfold midN
 rw [List.take_length]
 by_cases h:(j:Int) ∈ orgs N
 ·rw [if_pos h]
 ·rw [if_neg h]
  have:N j = none:=by
   cases hj:N j with
   | none=>rfl
   | some x =>
     by_cases h6:j < 64
     ·exact absurd ((orgs_mem (N:=N) (j:Int)).2 ⟨⟨by omega,by omega⟩,by rw [Int.toNat_natCast,hj]; rfl⟩) h
     ·have:=hN j (by omega); rw [hj] at this; cases this
  unfold tickN
  rw [this]
theorem midN_succ (n:Int) (N:Db) (k:Nat) (hk:k < (orgs N).length) (q:Nat) (hq:(orgs N)[k] = (q:Int)):midN n N (k + 1) = fun j=>if j = q then tickN n N q else midN n N k j:=by
 funext j
 unfold midN
 rw [List.take_succ_eq_append_getElem hk,hq]
 by_cases h:j = q
 ·subst h
  rw [if_pos (by simp),if_pos rfl]
 ·rw [if_neg h]
  by_cases h2:(j:Int) ∈ (orgs N).take k
  ·rw [if_pos (by simp [h2]),if_pos h2]
  ·rw [if_neg (by simp [h2]; omega),if_neg h2]
theorem midN_at (n:Int) (N:Db) (k:Nat) (hk:k < (orgs N).length) (q:Nat) (hq:(orgs N)[k] = (q:Int)):midN n N k q = N q:=by
 unfold midN
 rw [if_neg]
 intro hm
 have hp:=orgs_sorted N
 obtain ⟨i,hi,e⟩:=List.getElem_of_mem hm
 rw [List.length_take] at hi
 rw [List.getElem_take] at e
 have:=List.pairwise_iff_getElem.1 hp i k (by omega) hk (by omega)
 rw [e,hq] at this
 omega
theorem tickL_take (n:Int) (N:Db) (k:Nat) (hk:k < (orgs N).length) (q:Nat) (hq:(orgs N)[k] = (q:Int)):((orgs N).take (k + 1)).filter (fun i=>expH n (N i.toNat)) = ((orgs N).take k).filter (fun i=>expH n (N i.toNat)) ++ (if expH n (N q) = true then [(q:Int)] else []):=by
 rw [List.take_succ_eq_append_getElem hk,hq,List.filter_append]
 congr 1
 rw [List.filter_cons,Int.toNat_natCast]
 split <;> simp
theorem grown_belowB {w0 w w':World} {b B:Nat} (h:w0.grownBy w (some b)) (hb:Below B w w') (hB:w0.heap.size ≤ B):w0.grownBy w' (some b) :=
 ⟨hb.os.trans h.os,hb.tape.trans h.tape,hb.output.trans h.output,Nat.le_trans h.size hb.size,fun k hk hne=>(hb.block k (Nat.lt_of_lt_of_le hk hB)).trans (h.block k hk hne)⟩
theorem MapIs.belowB {w w':World} {b B:Nat} {M:Int → Option Value} (h:MapIs w b M) (hb:Below B w w') (hB:b < B):MapIs w' b M:=by
 obtain ⟨D,⟨es,clock,h1,h2⟩,hd⟩:=h
 exact ⟨D,⟨es,clock,(hb.block b hB).trans h1,h2⟩,hd⟩
theorem own_belowB {w w':World} {base:Nat} {e:TypeId} {size:Nat} {v:Value} {n:Nat} {xs:List Value} {B:Nat} (h:w.ownsRow base e size v n xs) (hb:Below B w w') (hB:∀ k,v.ownBlock = some k → k < B):w'.ownsRow base e size v n xs:=by
 refine ⟨h.1,?_⟩
 rcases h.2 with h2 | ⟨g,cap,cur,rfl,hg,hh,r⟩
 ·exact .inl h2
 ·exact .inr ⟨g,cap,cur,rfl,hg,(hb.block g (hB g rfl)).trans hh,r⟩
theorem own_rowB {w w':World} {base:Nat} {e:TypeId} {size:Nat} {v:Value} {n:Nat} {xs:List Value} {b:Nat} (h:w.ownsRow base e size v n xs) (hg:w.grownBy w' (some b)) (hB:b < base):w'.ownsRow base e size v n xs:=by
 refine ⟨h.1,?_⟩
 rcases h.2 with h2 | ⟨g,cap,cur,rfl,hgb,hh,r⟩
 ·exact .inl h2
 ·exact .inr ⟨g,cap,cur,rfl,hgb,(hg.block g (h.lt g rfl).2 (fun e=>by injection e; omega)).trans hh,r⟩
theorem MapIs.run_del {w:World} {b:Nat} {M:Int → Option Value} (h:MapIs w b M) {i:Int} (hi:(Lit.int .i64 i).wf = true) (ty:TypeId) :
  ∃ w',(Builtin.delete_ #[157,3] ty #[.map (some b),.int .i64 i]).run Tryz.prog w = .ok (.tuple #[]) w' ∧ MapIs w' b (fun j=>if j = i then none else M j) ∧ w.grownBy w' (some b):=by
 obtain ⟨D,hown,hd⟩:=h
 obtain ⟨w',hrun,r1,r2⟩:=hown.drop keyI Tryz.underlying157 (keyOfI hi) ty
 exact ⟨w',hrun,.of r1 (hd.del i),r2.grown⟩
end Go.Proofs.YtehimhbgakpenaaGreat

namespace Go.Proofs.YtehimhbgakpenaaGreat
set_option linter.unusedVariables false
open Go.RowKit Go.Maps Go.Sort
theorem dorigins_any (w:World) (g b:Nat) (N:Db) (h:DbAt w g b N):Calls Tryz.prog 104 #[.pointer (some ⟨g,0,none⟩)] w fun e w'=>∃ A c,e = .returned (.slice A (orgs N).length c) ∧
  w'.ownsRow w.heap.size 3 1 (.slice A (orgs N).length c) (orgs N).length ((orgs N).map encZ) ∧ Below w.heap.size w w':=by
 obtain ⟨⟨M,hm,he⟩,hc⟩:=h
 have hko:=keysL_orgs hm he
 obtain ⟨D,hown,hd⟩:=hm
 have hs:=size_keys hown hd
 refine (origins_any g b 64 D hdR w hc hown (by unfold maxLen; omega) (by omega)).mono ?_
 rintro e w' ⟨v,ss,he,hp,hrow,hnil,hb⟩
 rw [sort_keys hown hd hp,hko] at hrow
 have hl:ss.length = (orgs N).length:=by
  rw [← hko,← sort_keys hown hd hp,List.length_mergeSort]
 rw [hl] at hrow
 obtain ⟨A,c,rfl,_⟩:=own_rd hrow
 exact ⟨A,c,he,hrow,hb⟩
theorem intT:ElemT Tryz.prog 58 3 (.int .i64 0) 1 8:=⟨Tryz.underlying58,by kernel_rfl,rfl,by omega⟩
def DTickPost (w:World) (g b:Nat) (N:Db) (n:Int) (e:Ending) (w':World):Prop :=
 ∃ v,e = .returned v ∧ w'.ownsRow w.heap.size 3 1 v (tickL n N).length ((tickL n N).map encZ) ∧ DbAt w' g b (tickN n N) ∧ w.grownBy w' (some b)
structure TkAt (w wr:World) (g b:Nat) (N:Db) (n:Int) (B:Nat) (v14 v5:Value) (k:Nat) (es:List Int):Prop where
 ex:∃ M,MapIs wr b M ∧ ∀ i:Nat,i < 64 → ElAt w (M (i:Int)) (midN n N k i)
 cell:wr.cell? ⟨g,0,none⟩ = some (.map (some b))
 gr:w.grownBy wr (some b)
 o14:wr.ownsRow w.heap.size 3 1 v14 (orgs N).length ((orgs N).map encZ)
 o5:wr.ownsRow B 3 1 v5 es.length (es.map encZ)
 he:es = ((orgs N).take k).filter (fun i=>expH n (N i.toNat))
 sz:B ≤ wr.heap.size
theorem own_far {w:World} {base:Nat} {e:TypeId} {size:Nat} {v:Value} {n:Nat} {xs:List Value} (h:w.ownsRow base e size v n xs) {p:Addr} (hp:∀ k,v.ownBlock = some k → k ≠ p.block) (u:Value):(w.setCell p u).ownsRow base e size v n xs:=by
 refine ⟨h.1,?_⟩
 rcases h.2 with h2 | ⟨g,cap,cur,rfl,hg,hh,r⟩
 ·exact .inl h2
 ·exact .inr ⟨g,cap,cur,rfl,hg,(heap_setCell_other w p g u (fun e=>hp g rfl e)).trans hh,r⟩
structure TkW (w W:World) (g b:Nat) (M:Int → Option Value) (N:Db) (B:Nat) (v14 v5:Value) (es:List Int) (g2:Nat) (cs:List Value):Prop where
 hm:MapIs W b M
 c:W.cell? ⟨g,0,none⟩ = some (.map (some b))
 gr:w.grownBy W (some b)
 o14:W.ownsRow w.heap.size 3 1 v14 (orgs N).length ((orgs N).map encZ)
 o5:W.ownsRow B 3 1 v5 es.length (es.map encZ)
 l14:∀ bb,v14.ownBlock = some bb → bb < B
 l5:∀ bb,v5.ownBlock = some bb → bb ≠ g2
 bx:Box W g2 cs
 pos:0 < cs.length
 hB:B ≤ g2
 hw:w.heap.size ≤ B
 hg:g < w.heap.size
 hb:b < w.heap.size
section
variable {w W W':World} {g b:Nat} {M:Int → Option Value} {N:Db} {B:Nat} {v14 v5:Value} {es:List Int} {g2:Nat} {cs:List Value}
theorem TkW.sz (h:TkW w W g b M N B v14 v5 es g2 cs):B ≤ W.heap.size:=Nat.le_trans h.hB (Nat.le_of_lt (h.bx.lt h.pos))
theorem TkW.set (h:TkW w W g b M N B v14 v5 es g2 cs) (j:Nat) (u:Value) (hj:j < cs.length) (cs':List Value) (hcs:cs.set j u = cs'):TkW w (W.setCell ⟨g2,j,none⟩ u) g b M N B v14 v5 es g2 cs':=by
 subst hcs
 have h1:=h.hB; have h2:=h.hw; have h3:=h.hg; have h4:=h.hb
 refine ⟨h.hm.kept (grownBy_set W g2 j u) (fun e=>by injection e; omega),(cell_far u (by intro e; injection e; omega)).trans h.c,?_,own_far h.o14 (fun k hk=>by have:=h.l14 k hk; simp only; omega) u,own_far h.o5 (fun k hk=>h.l5 k hk) u,h.l14,h.l5,h.bx.set j u hj,by rw [List.length_set]; exact h.pos,h.hB,h.hw,h.hg,h.hb⟩
 have hg:=grownBy_set W g2 j u
 refine ⟨hg.os.trans h.gr.os,hg.tape.trans h.gr.tape,hg.output.trans h.gr.output,Nat.le_trans h.gr.size hg.size,fun k hk hne=>?_⟩
 exact (hg.block k (Nat.lt_of_lt_of_le hk h.gr.size) (fun e=>by injection e; omega)).trans (h.gr.block k hk hne)
theorem TkW.below (h:TkW w W g b M N B v14 v5 es g2 cs) (hb:Below W.heap.size W W'):TkW w W' g b M N B v14 v5 es g2 cs :=
 ⟨h.hm.below hb,cell_later hb h.c,h.gr.trans (below_row hb _),own_below h.o14 hb,own_below h.o5 hb,h.l14,h.l5,h.bx.later hb,h.pos,h.hB,h.hw,h.hg,h.hb⟩
theorem TkW.drew (h:TkW w W g b M N B v14 v5 es g2 cs):TkW w W.drew g b M N B v14 v5 es g2 cs:=h.below ⟨rfl,rfl,rfl,Nat.le_refl _,fun _ _=>rfl⟩
theorem TkW.app (h:TkW w W g b M N B v14 v5 es g2 cs) {v5':Value} {es':List Int} (ho:W'.ownsRow B 3 1 v5' es'.length (es'.map encZ)) (hbel:Below B W W') (hg:W.grownBy W' v5.ownBlock) (hv:v5'.ownBlock = v5.ownBlock ∨ v5'.ownBlock = some W.heap.size):TkW w W' g b M N B v14 v5' es' g2 cs:=by
 have h1:=h.hB; have h2:=h.hw; have h3:=h.hg; have h4:=h.hb
 have hl:=h.bx.lt h.pos
 refine ⟨h.hm.belowB hbel (by omega),(hbel.cell (p:=⟨g,0,none⟩) (by simp only; omega)).trans h.c,grown_belowB h.gr hbel h.hw,own_belowB h.o14 hbel h.l14,ho,h.l14,fun bb e=>?_,h.bx.kept hg (fun e=>h.l5 g2 e.symm rfl) h.pos,h.pos,h.hB,h.hw,h.hg,h.hb⟩
 rcases hv with e2 | e2
 ·exact h.l5 bb (e2 ▸ e)
 ·rw [e2] at e; injection e; omega
theorem TkW.fin (h:TkW w W g b M N B v14 v5 es g2 cs) {w9:World} (hg9:W.grownBy w9 (some b)):w9.cell? ⟨g,0,none⟩ = some (.map (some b)) ∧ w.grownBy w9 (some b) ∧ w9.ownsRow w.heap.size 3 1 v14 (orgs N).length ((orgs N).map encZ) ∧ w9.ownsRow B 3 1 v5 es.length (es.map encZ) ∧ B ≤ w9.heap.size:=by
 have h1:=h.hB; have h2:=h.hw; have h3:=h.hg; have h4:=h.hb
 have hne:g ≠ b:=fun e=>by have:=h.c; rw [e,h.hm.no_cell] at this; cases this
 refine ⟨?_,h.gr.trans hg9,own_rowB h.o14 hg9 h.hb,own_rowB h.o5 hg9 (by omega),Nat.le_trans h.sz hg9.size⟩
 rw [World.cell?_of_block (a:=⟨g,0,none⟩) (hg9.block g (World.block_lt_of_cell? _ _ h.c) (fun e=>hne (by injection e)))]
 exact h.c
end
set_option maxRecDepth 100000 in
set_option maxHeartbeats 12800000 in
theorem dtick_any (w:World) (g b:Nat) (N:Db) (n:Int) (h:DbAt w g b N) (hok:DbOk N) (hN:∀ i,64 ≤ i → N i = none) (hn0:0 < n) (hn:n ≤ 1000000) :
  Calls Tryz.prog 91 #[.pointer (some ⟨g,0,none⟩),.int .i64 n] w (DTickPost w g b N n):=by
 have O:=dorigins_any w g b N h
 have hgb:=h.ne
 obtain ⟨hgl,hbl⟩:=h.lt
 have hlen:=orgs_len N
 have hfin:Hid (∀ (wr:World) (B:Nat) (v14 v5:Value) (es:List Int),w.heap.size ≤ B → TkAt w wr g b N n B v14 v5 (orgs N).length es → DTickPost w g b N n (.returned v5) wr):=fun wr B v14 v5 es hB T=>by
  obtain ⟨M,hm,he⟩:=T.ex
  rw [midN_end n N hN] at he
  have e2:es = tickL n N:=by rw [T.he,List.take_length]; rfl
  refine ⟨v5,rfl,?_,⟨⟨M,hm,fun i hi=>?_⟩,T.cell⟩,T.gr⟩
  ·rw [← e2]; exact own_mono T.o5 hB
  ·have hmw:=h.ex
   obtain ⟨M0,hm0,_⟩:=hmw
   exact (he i hi).keptMap hm0 T.gr
 obtain ⟨⟨M,hm,he⟩,hc⟩:=id h
 replace O:=Lib.hid O
 go_enter Tryz.func91,Tryz.ntmps91
 go_wp2_with fail
 (with_reducible refine (O.out).mono ?_)
 rintro e w1 ⟨A,c,rfl,o14,hb⟩
 clear O
 have hT:TkAt w w1 g b N n w1.heap.size (.slice A (orgs N).length c) (.slice none 0 0) 0 [] :=
  ⟨⟨M,hm.below hb,fun i hi=>by rw [midN_zero]; exact he i hi⟩,cell_later hb hc,below_row hb _,o14,World.ownsRow_nil _ _ _ _,by simp,Nat.le_refl _⟩
 have hlt14:Hid (∀ bb,(Value.slice A (orgs N).length c).ownBlock = some bb → bb < w1.heap.size):=fun bb e=>(o14.lt bb e).2
 have hw1:=hb.size
 replace hm:=Lib.hid hm
 clear o14 hb he hc h
 generalize hB:w1.heap.size = B at *
 clear hB
 replace hT:=Lib.hid hT
 replace hN:=Lib.hid hN
 replace hok:=Lib.hid hok
 generalize hL:(orgs N).length = len at *
 replace hL:=Lib.hid hL
 go_wp2_with fail
 go_loopw [5,16] (fun v5 v16 wr=>∃ (k:Nat) (es:List Int),v16 = .int .i64 k ∧ k ≤ len ∧ es.length ≤ k ∧ Hid (TkAt w wr g b N n B (.slice A len c) v5 k es)) (fun _ v16 _=>len - (intOf v16).toNat)
 case atStart=>exact ⟨0,[],rfl,by omega,by simp,hT⟩
 case round =>
  clear hT
  obtain ⟨k,es,rfl,hk,hes,hT⟩:=hrel
  by_cases hkn:k < len
  ·have hkl:k < (orgs N).length:=by rw [hL.out]; exact hkn
   obtain ⟨⟨Mk,hmk,hek⟩,hck,hgr,ho14,ho5,hes2,hsz⟩:=hT.out
   have hmem:=(orgs_mem (N:=N) (orgs N)[k]).1 (List.getElem_mem hkl)
   obtain ⟨q,hq⟩:=Int.eq_ofNat_of_zero_le hmem.1.1
   have hq64:q < 64:=by have:=hmem.1.2; omega
   obtain ⟨hh,hNq⟩:∃ hh,N q = some hh:=by
    have:=hmem.2
    rw [hq,Int.toNat_natCast] at this
    exact Option.isSome_iff_exists.1 this
   have hat:=midN_at n N k hkl q hq
   have hsucc:=midN_succ n N k hkl q hq
   have htake:=tickL_take n N k hkl q hq
   have heq:=hek q hq64
   rw [hat,hNq] at heq
   obtain ⟨Mv,hMv⟩:∃ Mv,Mk (q:Int) = Mv:=⟨_,rfl⟩
   rw [hMv] at heq
   cases Mv with
   | none=>exact heq.elim
   | some vv =>
   obtain ⟨A2,c2,B2,d2,rfl,hla⟩:=heq
   obtain ⟨hva,hxo,hl1,hl2⟩:=hok.out q hh hNq
   have hage:=hva.2.2.1
   have ho14b:=ho14
   rw [hL.out] at ho14b
   have r14:=own_slice ho14b
   clear ho14b
   have L:=hmk.run_at (i:=(q:Int)) (wf64 (by omega) (by omega))
   rw [hMv] at L
   simp only [Option.getD_some] at L
   unfold hdV at L
   obtain ⟨b14,off14,rfl,hz14⟩:=rd_at r14 (by simpa using Nat.lt_of_le_of_lt (Nat.zero_le _) hkl)
   have z14:wr.cell? ⟨b14,off14 + k,none⟩ = some (.int .i64 (q:Int)):=hz14 k _ (by rw [List.getElem?_map,List.getElem?_eq_getElem hkl,hq]; rfl)
   clear hz14 r14
   have hnext:Hid (∀ (wr':World) (v5':Value) (es':List Int) (Mn:Int → Option Value),MapIs wr' b (fun j=>if j = (q:Int) then Mn q else Mk j) → ElAt w (Mn q) (tickN n N q) → wr'.cell? ⟨g,0,none⟩ = some (.map (some b)) → w.grownBy wr' (some b) →
     wr'.ownsRow w.heap.size 3 1 (.slice (some ⟨b14,off14,none⟩) len c) (orgs N).length ((orgs N).map encZ) → wr'.ownsRow B 3 1 v5' es'.length (es'.map encZ) → es' = es ++ (if expH n (N q) = true then [(q:Int)] else []) → B ≤ wr'.heap.size →
     TkAt w wr' g b N n B (.slice (some ⟨b14,off14,none⟩) len c) v5' (k + 1) es'):=fun wr' v5' es' Mn h1 h2 h3 h4 h5 h6 h7 h8=>by
    refine ⟨⟨_,h1,fun i hi=>?_⟩,h3,h4,h5,h6,by rw [h7,htake,← hes2],h8⟩
    rw [hsucc]
    by_cases e:i = q
    ·subst e; simp only [if_true]; exact h2
    ·have e':¬ (i:Int) = (q:Int):=by omega
     simp only [if_neg e,if_neg e']
     exact hek i hi
   clear hsucc htake hat hek hmem hq hkl hT
   replace hes2:=Lib.hid hes2
   replace hMv:=Lib.hid hMv
   replace hxo:=Lib.hid hxo
   replace hNq:=Lib.hid hNq
   have htk:Hid (tickN n N q = (tickH n hh).1 ∧ expH n (N q) = (tickH n hh).2):=by
    show _ ∧ _
    unfold tickN expH
    rw [hNq.out]
    exact ⟨rfl,rfl⟩
   have b9:=below_new' wr (.cells #[.int .i64 hh.x.o,.int .i64 hh.x.s,.int .i64 hh.x.a,.bool hh.x.ov,.slice A2 hh.x.adj.length c2,.slice B2 hh.x.pre.length d2,.int .i64 hh.l] 206)
   have hT0:TkW w (wr.alloc (.cells #[.int .i64 hh.x.o,.int .i64 hh.x.s,.int .i64 hh.x.a,.bool hh.x.ov,.slice A2 hh.x.adj.length c2,.slice B2 hh.x.pre.length d2,.int .i64 hh.l] 206)) g b Mk N B (.slice (some ⟨b14,off14,none⟩) len c) u5 es wr.heap.size [.int .i64 hh.x.o,.int .i64 hh.x.s,.int .i64 hh.x.a,.bool hh.x.ov,.slice A2 hh.x.adj.length c2,.slice B2 hh.x.pre.length d2,.int .i64 hh.l] :=
    ⟨hmk.below b9,cell_later b9 hck,hgr.trans (below_row b9 (some b)),own_below ho14 b9,own_below ho5 b9,hlt14.out,fun bb e=>by have:=(ho5.lt bb e).2; omega,Box.new' wr #[.int .i64 hh.x.o,.int .i64 hh.x.s,.int .i64 hh.x.a,.bool hh.x.ov,.slice A2 hh.x.adj.length c2,.slice B2 hh.x.pre.length d2,.int .i64 hh.l] 206 wr.heap.size _ rfl rfl,by simp,hsz,hw1,hgl,hbl⟩
   go_upto_region 9 with fail
   clear z14 L hmk hck hgr ho14 ho5 hsz b9
   generalize wr.alloc _ = w2 at *
   generalize wr.heap.size = g2 at *
   by_cases hA:hh.x.a < 3600
   ·by_cases hB1:n < 3600 - hh.x.a
    ·have hval:tickH n hh = (some ⟨{ hh.x with a:=hh.x.a + n },hh.l⟩,false):=by unfold tickH; rw [if_pos hA,if_pos hB1]
     have e1:=htk.out.1
     have e2:=htk.out.2
     rw [hval] at e1 e2
     have hel:Hid (ElAt w (some (.agg #[.int .i64 hh.x.o,.int .i64 hh.x.s,.int .i64 (hh.x.a + n),.bool hh.x.ov,.slice A2 hh.x.adj.length c2,.slice B2 hh.x.pre.length d2,.int .i64 hh.l])) (tickN n N q)):=by
      show ElAt _ _ _
      rw [e1]
      exact ⟨A2,c2,B2,d2,rfl,hla.renum hh.x.o hh.x.s (hh.x.a + n) hh.x.ov⟩
     have e3:Hid (es = es ++ (if expH n (N q) = true then [(q:Int)] else [])):=by show _ = _; rw [e2]; simp
     have a2:=hT0.bx.c 2 rfl
     have f2:=hT0.bx.f 2 rfl
     have hT1:=hT0.set 2 (.int .i64 (hh.x.a + n)) (by simp) [.int .i64 hh.x.o,.int .i64 hh.x.s,.int .i64 (hh.x.a + n),.bool hh.x.ov,.slice A2 hh.x.adj.length c2,.slice B2 hh.x.pre.length d2,.int .i64 hh.l] rfl
     clear e1 e2 hval htk hla
     go_upto_region 12 with fail
     clear a2 f2 hT0
     generalize World.setCell _ _ _ = w3 at *
     have TD:=hT1.drew
     have c1:=TD.c
     have y0:=TD.bx.c 0 rfl
     have y1:=TD.bx.c 1 rfl
     have y2:=TD.bx.c 2 rfl
     have y3:=TD.bx.c 3 rfl
     have y4:=TD.bx.c 4 rfl
     have y5:=TD.bx.c 5 rfl
     have y6:=TD.bx.c 6 rfl
     obtain ⟨w9,run9,hm9,hg9⟩:=TD.hm.run_put (i:=(q:Int)) (by omega) (by omega) (.agg #[.int .i64 hh.x.o,.int .i64 hh.x.s,.int .i64 (hh.x.a + n),.bool hh.x.ov,.slice A2 hh.x.adj.length c2,.slice B2 hh.x.pre.length d2,.int .i64 hh.l])
     obtain ⟨t1,t2,t3,t4,t5⟩:=TD.fin hg9
     have hT9:=hnext.out w9 u5 es (fun _=>some (.agg #[.int .i64 hh.x.o,.int .i64 hh.x.s,.int .i64 (hh.x.a + n),.bool hh.x.ov,.slice A2 hh.x.adj.length c2,.slice B2 hh.x.pre.length d2,.int .i64 hh.l])) hm9 (hel.out) t1 t2 t3 t4 (e3.out) t5
     replace hT9:=Lib.hid hT9
     clear hm9 hg9 t1 t2 t3 t4 t5 TD hT1
     go_region_law (fail)
     all_goals
      clear run9 y0 y1 y2 y3 y4 y5 y6 c1
      go_wp2_with fail
      go_round
      case rel=>exact ⟨k + 1,es,by go_num,by omega,by omega,hT9⟩
      case measure=>simp [intOf]; omega
    ·have e1:=htk.out.1
     have e2:=htk.out.2
     have hval:tickH n hh = (if 60 ≤ n - (3600 - hh.x.a) then none else some ⟨purgeX hh.x,60 - (n - (3600 - hh.x.a))⟩,true):=by unfold tickH; rw [if_pos hA,if_neg hB1]
     rw [hval] at e1 e2
     simp only at e1 e2
     have e3:Hid (es ++ [(q:Int)] = es ++ (if expH n (N q) = true then [(q:Int)] else [])):=by show _ = _; rw [e2]; simp
     have P0:=lpurge_any w2 _ hh.x (hla.keptMap hm.out hT0.gr).1
     unfold PurgePost purgeE purgeV at P0
     rw [vB_t hva,if_pos rfl,if_pos rfl] at P0
     have P:Calls Tryz.prog 146 #[laV hh.x.o hh.x.s hh.x.a hh.x.ov A2 hh.x.adj.length c2 B2 hh.x.pre.length d2] w2 (fun e w'=>∃ A3 c3 B3 d3,e = .returned (.tuple #[laV hh.x.o hh.x.s 3600 false A3 0 c3 B3 0 d3,.int .i64 0]) ∧ LaAt w (laV hh.x.o hh.x.s 3600 false A3 0 c3 B3 0 d3) (purgeX hh.x) ∧ Below w2.heap.size w2 w'):=P0.mono (by
      rintro e w' ⟨v3,he,⟨A3,c3,B3,d3,rfl,o1,o2,hu⟩,hb⟩
      obtain ⟨A8,c8,e8,_,l8,m8⟩:=own_rd o1
      obtain ⟨A9,c9,e9,_,l9,m9⟩:=own_rd o2
      injection e8 with e8 e8' e8''
      injection e9 with e9 e9' e9''
      subst e8 e8'' e9 e9''
      exact ⟨A3,c3,B3,d3,he,⟨A3,c3,B3,d3,rfl,Rd.nil _ _,Rd.nil _ _,by simp [purgeX],m8,by simp [purgeX],m9,by simp [purgeX]⟩,hb⟩)
     clear P0
     replace P:=Lib.hid P
     replace e1:=Lib.hid e1
     clear e2 hval htk hla
     obtain ⟨rest,hrest⟩:∃ z,n - (3600 - hh.x.a) = z:=⟨_,rfl⟩
     have hr0:0 ≤ rest:=by omega
     have hr1:rest ≤ 1000000:=by omega
     have a0:=hT0.bx.c 0 rfl
     have a1:=hT0.bx.c 1 rfl
     have a2:=hT0.bx.c 2 rfl
     have a3:=hT0.bx.c 3 rfl
     have a4:=hT0.bx.c 4 rfl
     have a5:=hT0.bx.c 5 rfl
     rw [hrest] at e1
     go_upto_region 14 with fail
     clear hrest
     go_wp2_with fail
     (with_reducible refine (P.out).mono ?_)
     rintro e w3 ⟨A3,c3,B3,d3,rfl,hl3,hb⟩
     replace hl3:=Lib.hid hl3
     have hT1:=hT0.below hb
     clear P a0 a1 a2 a3 a4 a5 hT0 hb
     have hT2:=((((((hT1.set 0 (.int .i64 hh.x.o) (by simp) _ rfl).set 1 (.int .i64 hh.x.s) (by simp) _ rfl).set 2 (.int .i64 3600) (by simp) _ rfl).set 3 (.bool false) (by simp) _ rfl).set 4 (.slice A3 0 c3) (by simp) _ rfl).set 5 (.slice B3 0 d3) (by simp) [.int .i64 hh.x.o,.int .i64 hh.x.s,.int .i64 3600,.bool false,.slice A3 0 c3,.slice B3 0 d3,.int .i64 hh.l] rfl)
     have a0:=hT1.bx.c 0 rfl
     have a1:=hT1.bx.c 1 rfl
     have a2:=hT1.bx.c 2 rfl
     have a3:=hT1.bx.c 3 rfl
     have a4:=hT1.bx.c 4 rfl
     have a5:=hT1.bx.c 5 rfl
     have f0:=hT1.bx.f 0 rfl
     have f1:=hT1.bx.f 1 rfl
     have f2:=hT1.bx.f 2 rfl
     have f3:=hT1.bx.f 3 rfl
     have f4:=hT1.bx.f 4 rfl
     have f5:=hT1.bx.f 5 rfl
     go_upto_region 15 with fail
     clear a0 a1 a2 a3 a4 a5 f0 f1 f2 f3 f4 f5 hT1
     generalize World.setCell _ _ _ = w4 at *
     have a6:=hT2.bx.c 6 rfl
     have f6:=hT2.bx.f 6 rfl
     have hT3:=hT2.set 6 (.int .i64 60) (by simp) [.int .i64 hh.x.o,.int .i64 hh.x.s,.int .i64 3600,.bool false,.slice A3 0 c3,.slice B3 0 d3,.int .i64 60] rfl
     go_upto_region 16 with fail
     clear a6 f6 hT2
     generalize World.setCell _ _ _ = w5 at *
     have hT4:=hT3.below (below_new' w5 (.cells #[.int .i64 (q:Int)] 3))
     have rd0:=Rd.lit w5 #[.int .i64 (q:Int)] 3
     have o5:=hT4.o5
     have hsz4:=hT4.sz
     have hes64:es.length ≤ 64:=by omega
     clear hT3
     by_cases hR:60 ≤ rest
     ·have e4:Hid (ElAt w none (tickN n N q)):=by show ElAt _ _ _; rw [e1.out,if_pos hR]; trivial
      clear e1
      go_wp2_with (at_builtin; refine wpList_appB rfl intT (.tmp 64) (.tmp 66) rfl B rfl o5 (m:=1) rfl (by simp) rd0 (by simp [Value.oneCell']) (by simp only [maxLen]; omega) (by omega) hsz4 (es.length + 1) ((es ++ [(q:Int)]).map encZ) rfl (by simp) ?_; intro v6 w6 o6 hbel6 hg6 hv6; have hT5:=hT4.app (es':=es ++ [(q:Int)]) (by rw [List.length_append]; exact o6) hbel6 hg6 hv6; have a6:=hT5.bx.c 6 rfl; clear o6 hbel6 hg6 hv6; have c1:=hT5.c; obtain ⟨w9,run9,hm9,hg9⟩:=hT5.hm.run_del (i:=(q:Int)) (wf64 (by omega) (by omega)) 0)
      obtain ⟨t1,t2,t3,t4,t5⟩:=hT5.fin hg9
      have hT9:=hnext.out w9 v6 (es ++ [(q:Int)]) (fun _=>none) hm9 (e4.out) t1 t2 t3 t4 (e3.out) t5
      replace hT9:=Lib.hid hT9
      clear hm9 hg9 t1 t2 t3 t4 t5
      go_wp2_with fail
      go_round
      case rel=>exact ⟨k + 1,(es ++ [(q:Int)]),by go_num,by omega,by rw [List.length_append,List.length_singleton]; omega,hT9⟩
      case measure=>simp [intOf]; omega
     ·have e4:Hid (ElAt w (some (.agg #[.int .i64 hh.x.o,.int .i64 hh.x.s,.int .i64 3600,.bool false,.slice A3 0 c3,.slice B3 0 d3,.int .i64 (60 - rest)])) (tickN n N q)):=by
       show ElAt _ _ _
       rw [e1.out,if_neg hR]
       exact ⟨A3,c3,B3,d3,rfl,hl3.out,fun h=>absurd h (by simp [purgeX]),fun h=>absurd h (by simp [purgeX])⟩
      clear e1
      go_wp2_with (at_builtin; refine wpList_appB rfl intT (.tmp 64) (.tmp 66) rfl B rfl o5 (m:=1) rfl (by simp) rd0 (by simp [Value.oneCell']) (by simp only [maxLen]; omega) (by omega) hsz4 (es.length + 1) ((es ++ [(q:Int)]).map encZ) rfl (by simp) ?_; intro v6 w6 o6 hbel6 hg6 hv6; have hT5:=hT4.app (es':=es ++ [(q:Int)]) (by rw [List.length_append]; exact o6) hbel6 hg6 hv6; have a6:=hT5.bx.c 6 rfl; clear o6 hbel6 hg6 hv6; have f6:=hT5.bx.f 6 rfl)
      have hT6:=hT5.set 6 (.int .i64 (60 - rest)) (by simp) [.int .i64 hh.x.o,.int .i64 hh.x.s,.int .i64 3600,.bool false,.slice A3 0 c3,.slice B3 0 d3,.int .i64 (60 - rest)] rfl
      clear a6 f6 hT5 hT4 o5 rd0
      generalize World.setCell _ _ _ = w7 at *
      have TD:=hT6.drew
      have c1:=TD.c
      have y0:=TD.bx.c 0 rfl
      have y1:=TD.bx.c 1 rfl
      have y2:=TD.bx.c 2 rfl
      have y3:=TD.bx.c 3 rfl
      have y4:=TD.bx.c 4 rfl
      have y5:=TD.bx.c 5 rfl
      have y6:=TD.bx.c 6 rfl
      obtain ⟨w9,run9,hm9,hg9⟩:=TD.hm.run_put (i:=(q:Int)) (by omega) (by omega) (.agg #[.int .i64 hh.x.o,.int .i64 hh.x.s,.int .i64 3600,.bool false,.slice A3 0 c3,.slice B3 0 d3,.int .i64 (60 - rest)])
      obtain ⟨t1,t2,t3,t4,t5⟩:=TD.fin hg9
      have hT9:=hnext.out w9 v6 (es ++ [(q:Int)]) (fun _=>some (.agg #[.int .i64 hh.x.o,.int .i64 hh.x.s,.int .i64 3600,.bool false,.slice A3 0 c3,.slice B3 0 d3,.int .i64 (60 - rest)])) hm9 (e4.out) t1 t2 t3 t4 (e3.out) t5
      replace hT9:=Lib.hid hT9
      clear hm9 hg9 t1 t2 t3 t4 t5 TD hT6
      go_region_law (fail)
      all_goals
       clear run9 y0 y1 y2 y3 y4 y5 y6 c1
       go_wp2_with fail
       go_round
       case rel=>exact ⟨k + 1,(es ++ [(q:Int)]),by go_num,by omega,by rw [List.length_append,List.length_singleton]; omega,hT9⟩
       case measure=>simp [intOf]; omega
   ·have hval:tickH n hh = (if hh.l ≤ n then none else some ⟨hh.x,hh.l - n⟩,false):=by unfold tickH; rw [if_neg hA]
    have e1:=htk.out.1
    have e2:=htk.out.2
    rw [hval] at e1 e2
    simp only at e1 e2
    have e3:Hid (es = es ++ (if expH n (N q) = true then [(q:Int)] else [])):=by show _ = _; rw [e2]; simp
    have a2:=hT0.bx.c 2 rfl
    have a6:=hT0.bx.c 6 rfl
    by_cases hR:hh.l ≤ n
    ·have e4:Hid (ElAt w none (tickN n N q)):=by show ElAt _ _ _; rw [e1,if_pos hR]; trivial
     clear e1 e2 hval htk hla
     obtain ⟨w9,run9,hm9,hg9⟩:=hT0.hm.run_del (i:=(q:Int)) (wf64 (by omega) (by omega)) 0
     obtain ⟨t1,t2,t3,t4,t5⟩:=hT0.fin hg9
     have hT9:=hnext.out w9 u5 es (fun _=>none) hm9 (e4.out) t1 t2 t3 t4 (e3.out) t5
     replace hT9:=Lib.hid hT9
     have c1:=hT0.c
     clear hm9 hg9 t1 t2 t3 t4 t5
     go_wp2_with fail
     go_round
     case rel=>exact ⟨k + 1,es,by go_num,by omega,by omega,hT9⟩
     case measure=>simp [intOf]; omega
    ·have e4:Hid (ElAt w (some (.agg #[.int .i64 hh.x.o,.int .i64 hh.x.s,.int .i64 hh.x.a,.bool hh.x.ov,.slice A2 hh.x.adj.length c2,.slice B2 hh.x.pre.length d2,.int .i64 (hh.l - n)])) (tickN n N q)):=by
      show ElAt _ _ _
      rw [e1,if_neg hR]
      exact ⟨A2,c2,B2,d2,rfl,hla⟩
     clear e1 e2 hval htk hla
     have f6:=hT0.bx.f 6 rfl
     have hT1:=hT0.set 6 (.int .i64 (hh.l - n)) (by simp) [.int .i64 hh.x.o,.int .i64 hh.x.s,.int .i64 hh.x.a,.bool hh.x.ov,.slice A2 hh.x.adj.length c2,.slice B2 hh.x.pre.length d2,.int .i64 (hh.l - n)] rfl
     go_upto_region 20 with fail
     clear a2 a6 f6 hT0
     generalize World.setCell _ _ _ = w3 at *
     have TD:=hT1.drew
     have c1:=TD.c
     have y0:=TD.bx.c 0 rfl
     have y1:=TD.bx.c 1 rfl
     have y2:=TD.bx.c 2 rfl
     have y3:=TD.bx.c 3 rfl
     have y4:=TD.bx.c 4 rfl
     have y5:=TD.bx.c 5 rfl
     have y6:=TD.bx.c 6 rfl
     obtain ⟨w9,run9,hm9,hg9⟩:=TD.hm.run_put (i:=(q:Int)) (by omega) (by omega) (.agg #[.int .i64 hh.x.o,.int .i64 hh.x.s,.int .i64 hh.x.a,.bool hh.x.ov,.slice A2 hh.x.adj.length c2,.slice B2 hh.x.pre.length d2,.int .i64 (hh.l - n)])
     obtain ⟨t1,t2,t3,t4,t5⟩:=TD.fin hg9
     have hT9:=hnext.out w9 u5 es (fun _=>some (.agg #[.int .i64 hh.x.o,.int .i64 hh.x.s,.int .i64 hh.x.a,.bool hh.x.ov,.slice A2 hh.x.adj.length c2,.slice B2 hh.x.pre.length d2,.int .i64 (hh.l - n)])) hm9 (e4.out) t1 t2 t3 t4 (e3.out) t5
     replace hT9:=Lib.hid hT9
     clear hm9 hg9 t1 t2 t3 t4 t5 TD hT1
     go_region_law (fail)
     all_goals
      clear run9 y0 y1 y2 y3 y4 y5 y6 c1
      go_wp2_with fail
      go_round
      case rel=>exact ⟨k + 1,es,by go_num,by omega,by omega,hT9⟩
      case measure=>simp [intOf]; omega
  ·obtain rfl:k = len:=by omega
   have hf:=hfin.out _ _ _ _ _ hw1 hT.out
   replace hf:=Lib.hid hf
   clear hT
   go_wp2_with fail
   go_ret
   exact hf.out
end Go.Proofs.YtehimhbgakpenaaGreat

namespace Go.Proofs.YtehimhbgakpenaaGreat
set_option linter.unusedVariables false
open Go.RowKit Go.Maps Go.Sort
end Go.Proofs.YtehimhbgakpenaaGreat
