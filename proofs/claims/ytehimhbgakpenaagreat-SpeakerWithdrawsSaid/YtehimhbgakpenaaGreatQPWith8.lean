/-
  The texts RgPut, MapB, one after the other.
-/
import Derived.Maps.RangeWalk
import Derived.Test.YtehimhbgakpenaaGreatQPWith0
import Derived.Test.YtehimhbgakpenaaGreatChecked
import Derived.Maps.OwnSet
import Derived.Lib.SlKeysI
import Derived.Sort.OwnSortedInts
namespace Go.Proofs.YtehimhbgakpenaaGreat.Fd
set_option linter.unusedVariables false
open Go.ChangeMaps Go.MapKept Go.WideShapes
open Go.WideElems (Fit rd rg pl rd_key rd_val rg_of other_key rd_mk)
open Go.Maps (Keyed)
section
variable {H:Type} {P:Program} {k:TypeId} {R:Value → Option (DataW H × List MemPlace)} {w:World} {b r n:Nat} {D:DataW H} {left:Lit → Bool} {cnt:Nat}
theorem leftOf_len (es es':Array MapEntry) (seen:Array Nat) (h:es'.toList.map (·.born) = es.toList.map (·.born)):(leftOf es' seen).size = (leftOf es seen).size:=by
 have key:∀ (l:List MapEntry),(l.filter (fun e=>!seen.contains e.born)).length = ((l.map (·.born)).filter (fun x=>!seen.contains x)).length:=fun l=>by
  rw [List.filter_map,List.length_map]; rfl
 have sz:∀ (a:Array MapEntry),(leftOf a seen).size = (a.toList.filter (fun e=>!seen.contains e.born)).length:=fun a=>by
  unfold leftOf
  rw [← Array.length_toList (xs:=Array.filter _ a),Array.toList_filter]
 rw [sz,sz,key,key,h]
theorem ranges_put {t e:TypeId} (h:w.ranges P k R b r n D left cnt) (K:Keyed P k) (ht:P.underlying t = some (.map k e)) (hn:n < maxLen) {key val:Value} {kl:Lit} {d:DataW H} {ps:List MemPlace}
  (hkey:keyOf P k key = some kl) (hhas:Maps.has D kl = true) (hv:R val = some (d,ps)) :
  ∃ w',(Instr.mapUpdate t (.map (some b)) key val).run P w = .ok () w' ∧ w'.ranges P k R b r n (D.put kl d) left cnt ∧ w.grownBy w' (some b):=by
 have hne:=h.ne
 obtain ⟨es,clock,since,seen,c0,hb,F,hs,rfl,hr,hold,rfl,hl1,hl2,hsc,hsk⟩:=h
 obtain ⟨es',clock',hrun,F',hput,_⟩:=Maps.fit_store (R':=R) K ht hb F (Nat.lt_of_le_of_lt hs hn) (fun _ _ _ _ hz=>hz) hkey hv
 rcases K.find w hkey es.toList F.keys with ⟨h1,h2⟩ | ⟨j,e0,h1,h2,h3⟩
 ·exfalso
  obtain ⟨p,hp,hpk⟩:=List.any_eq_true.1 hhas
  obtain ⟨x,hx,rfl⟩:=List.mem_map.1 (mem_sorted.1 hp)
  obtain ⟨y,hy⟩:=F.reads x hx
  have e1:(rg P k R x).1 = kl:=WideAt.sameKey_eq hpk
  have e2:=rd_key hy
  rw [rg_of hy] at e1
  rw [e1] at e2
  exact h2 x hx (K.inj e2 hkey)
 ·have hj:es[j]? = some e0:=by simpa using h2
  have hrun2:(Instr.mapUpdate t (.map (some b)) key val).run P w = .ok () (setBlock w b (.map (es.modify j (fun e'=>{ e' with key:=key,val:=val })) clock)):=by
   simp [Instr.mapUpdate,run_underlying ht,MapKept.run_getObj_map hb,K.check w false hkey,h1,hj,h3,K.stays w hkey,MapKept.run_setObj_map _ hb,Result.andThen,setBlock]
  rw [hrun2] at hrun
  have hw:setBlock w b (.map (es.modify j (fun e'=>{ e' with key:=key,val:=val })) clock) = setBlock w b (.map es' clock'):=by injection hrun
  have ha:=heap_setBlock_same hb (.map (es.modify j (fun e'=>{ e' with key:=key,val:=val })) clock)
  rw [hw,heap_setBlock_same hb] at ha
  injection ha with ha
  injection ha with ha1 ha2
  subst ha1 ha2
  have hlist:(es.modify j (fun e'=>{ e' with key:=key,val:=val })).toList = es.toList.set j { e0 with key:=key,val:=val }:=by rw [Array.toList_modify,modify_eq_set _ _ _ _ h2]
  have hjl:j < es.toList.length:=(List.getElem?_eq_some_iff.1 h2).1
  have he0:es.toList[j] = e0:=(List.getElem?_eq_some_iff.1 h2).2
  obtain ⟨y0,hy0⟩:=F.reads e0 (List.mem_of_getElem? h2)
  have hk0:(rg P k R e0).1 = kl:=by
   have:=rd_key hy0
   rw [h3,hkey] at this
   injection this with this
   rw [rg_of hy0,this]
  have hk1:(rg P k R { e0 with key:=key,val:=val }).1 = kl:=by rw [rg_of (rd_mk hkey hv)]
  have who:∀ x ∈ es.toList.set j { e0 with key:=key,val:=val },x = { e0 with key:=key,val:=val } ∨ x ∈ es.toList:=fun x hx=>by
   rcases List.mem_or_eq_of_mem_set hx with h | h
   ·exact .inr h
   ·exact .inl h
  have hD:(DataW.map ((es.toList.map (rg P k R)).foldr DataW.insert [])).put kl d = .map (((es.modify j (fun e'=>{ e' with key:=key,val:=val })).toList.map (rg P k R)).foldr DataW.insert []):=by rw [DataW.put_eq,hput]
  refine ⟨_,hrun2,⟨_,_,since,seen,c0,heap_setBlock_same hb _,F',by simpa using hs,hD,(heap_setBlock_other hb _ hne).trans hr,?_,?_,?_,?_,hsc,hsk⟩,⟨rfl,rfl,rfl,by simp [setBlock],fun i _ hi=>heap_setBlock_other hb _ (fun e=>hi (by rw [e]))⟩⟩
  ·intro x hx
   rw [hlist] at hx
   rcases who x hx with rfl | hx
   ·exact hold e0 (List.mem_of_getElem? h2)
   ·exact hold x hx
  ·refine leftOf_len _ _ _ ?_
   rw [hlist,List.map_set]
   have:(es.toList.map (·.born))[j]'(by simpa using hjl) = e0.born:=by simp only [List.getElem_map]; rw [he0]
   show (es.toList.map (·.born)).set j e0.born = _
   rw [← this,List.set_getElem_self]
  ·intro x hx
   rw [hlist] at hx
   rcases who x hx with rfl | hx
   ·rw [hk1,← hk0]; exact hl1 e0 (List.mem_of_getElem? h2)
   ·exact hl1 x hx
  ·intro kl' hkl'
   obtain ⟨x,hx,e⟩:=hl2 kl' hkl'
   rw [hlist]
   obtain ⟨i,hi,ex⟩:=List.getElem_of_mem hx
   by_cases hij:j = i
   ·subst hij
    rw [he0] at ex
    subst ex
    exact ⟨{ e0 with key:=key,val:=val },List.mem_iff_getElem.2 ⟨j,by simpa using hjl,by simp⟩,by rw [hk1,← hk0,e]⟩
   ·exact ⟨x,List.mem_iff_getElem.2 ⟨i,by simpa using hi,by rw [List.getElem_set_ne hij,ex]⟩,e⟩
end
end Go.Proofs.YtehimhbgakpenaaGreat.Fd

namespace Go.Proofs.YtehimhbgakpenaaGreat.Fd
set_option linter.unusedVariables false
open Go.RowKit Go.Maps Go.Sort
def hdR (v:Value):Option (DataW Value × List MemPlace):=some (.held v,[])
theorem keyI:Keyed Tryz.prog 3:=int_keyed Tryz.underlying3
theorem wf64 {i:Int} (h0:0 ≤ i) (h1:i ≤ 1000):(Lit.int .i64 i).wf = true:=WalkArith.wf_i64 (by omega)
theorem keyOfI {i:Int} (h:(Lit.int .i64 i).wf = true):keyOf Tryz.prog 3 (.int .i64 i) = some (.int .i64 i):=keyOf_int_mk Tryz.underlying3 h
structure DatIs (B:Nat) (D:DataW Value) (M:Int → Option Value):Prop where
 at_:∀ i z,D.atKey (.int .i64 i) (.held z) = .held ((M i).getD z)
 has_:∀ i,Maps.has D (.int .i64 i) = (M i).isSome
 small:∀ i,(M i).isSome = true → 0 ≤ i ∧ i < (B:Int)
theorem isKeyI (i:Int):WideAt.IsKeyLit (.int .i64 i):=by first | trivial | exact ⟨⟩ | simp [WideAt.IsKeyLit]
theorem ne_keyI {i j:Int} (h:j ≠ i):(Lit.int .i64 j) ≠ .int .i64 i:=fun e=>by injection e with _ e; exact h e
theorem DatIs.start (B:Nat):DatIs B (.map []) (fun _=>none):=⟨fun i z=>rfl,fun i=>rfl,fun i h=>by simp at h⟩
theorem DatIs.put {B:Nat} {D:DataW Value} {M:Int → Option Value} (h:DatIs B D M) (hD:Maps.IsMap D) {i:Int} (h0:0 ≤ i) (h1:i < (B:Int)) (v:Value):DatIs B (D.put (.int .i64 i) (.held v)) (fun j=>if j = i then some v else M j):=by
 refine ⟨fun j z=>?_,fun j=>?_,fun j hj=>?_⟩
 ·by_cases e:j = i
  ·subst e; rw [atKey_put_same hD (isKeyI j)]; simp
  ·rw [atKey_put_other (ne_keyI e),h.at_,if_neg e]
 ·by_cases e:j = i
  ·subst e; rw [has_put_same hD (isKeyI j)]; simp
  ·rw [has_put_other (ne_keyI e),h.has_]; simp only [if_neg e]
 ·by_cases e:j = i
  ·subst e; exact ⟨h0,h1⟩
  ·simp only [if_neg e] at hj; exact h.small j hj
theorem DatIs.del {B:Nat} {D:DataW Value} {M:Int → Option Value} (h:DatIs B D M) (i:Int):DatIs B (D.del (.int .i64 i)) (fun j=>if j = i then none else M j):=by
 refine ⟨fun j z=>?_,fun j=>?_,fun j hj=>?_⟩
 ·by_cases e:j = i
  ·subst e; rw [atKey_del_same]; simp
  ·rw [atKey_del_other (ne_keyI e),h.at_,if_neg e]
 ·by_cases e:j = i
  ·subst e; rw [has_del_same]; simp
  ·rw [has_del_other (ne_keyI e),h.has_]; simp only [if_neg e]
 ·by_cases e:j = i
  ·subst e; simp at hj
  ·simp only [if_neg e] at hj; exact h.small j hj
def keysL (B:Nat) (M:Int → Option Value):List Int:=((List.range B).map fun (i:Nat)=>(i:Int)).filter fun i=>(M i).isSome
theorem keysL_sorted (B:Nat) (M:Int → Option Value):(keysL B M).Pairwise (· < ·):=by
 unfold keysL
 refine List.Pairwise.filter _ ?_
 rw [List.pairwise_map]
 exact List.pairwise_lt_range.imp fun h=>by omega
theorem keysL_mem {B:Nat} {M:Int → Option Value} (hs:∀ i,(M i).isSome = true → 0 ≤ i ∧ i < (B:Int)) (i:Int):i ∈ keysL B M ↔ (M i).isSome = true:=by
 unfold keysL
 rw [List.mem_filter,List.mem_map]
 constructor
 ·rintro ⟨_,hk⟩; exact hk
 ·intro h
  obtain ⟨h0,h1⟩:=hs i h
  exact ⟨⟨i.toNat,List.mem_range.2 (by omega),Int.toNat_of_nonneg h0⟩,h⟩
theorem keysL_len (B:Nat) (M:Int → Option Value):(keysL B M).length ≤ B:=by
 unfold keysL
 refine Nat.le_trans (List.length_filter_le _ _) ?_
 simp
section
variable {w w':World} {b nn B:Nat} {D:DataW Value} {M:Int → Option Value}
theorem keys_perm (hown:w.ownsMap Tryz.prog 3 hdR b nn D) (h:DatIs B D M):(keysL B M).Perm (intKeys D):=by
 obtain ⟨es,hD,hpw,_⟩:=hown.entries keyI
 obtain ⟨es',hD',hko⟩:=hown.keysOf
 obtain rfl:es = es':=by rw [hD] at hD'; simpa using hD'
 subst hD
 refine perm_intKeys hpw (fun p hp=>by obtain ⟨v,hv⟩:=hko p hp; obtain ⟨x,_,hx,_⟩:=Maps.keyOf_i64 Tryz.underlying3 hv; exact ⟨x,hx⟩) ?_ (fun x=>by rw [keysL_mem h.small,h.has_])
 exact (keysL_sorted B M).imp fun h e=>by omega
theorem sort_keys (hown:w.ownsMap Tryz.prog 3 hdR b nn D) (h:DatIs B D M) {ss:List Int} (hp:ss.Perm (intKeys D)):ss.mergeSort (fun x y=>decide (x ≤ y)) = keysL B M:=by
 have h1:ss.mergeSort leI = (keysL B M).mergeSort leI:=mergeSort_of_perm_i (hp.trans (keys_perm hown h).symm)
 have h2:(keysL B M).mergeSort leI = keysL B M:=List.mergeSort_of_pairwise ((keysL_sorted B M).imp fun h=>by simp only [leI,decide_eq_true_eq]; omega)
 exact h1.trans h2
theorem size_keys (hown:w.ownsMap Tryz.prog 3 hdR b nn D) (h:DatIs B D M):Maps.size D ≤ B:=by
 have hp:=(keys_perm hown h).length_eq
 obtain ⟨es,rfl,_⟩:=hown.keysOf
 rw [show (intKeys (DataW.map es)).length = es.length by simp [intKeys]] at hp
 rw [Maps.size_eq,← hp]
 exact keysL_len B M
def MapIs (B:Nat) (w:World) (b:Nat) (M:Int → Option Value):Prop:=∃ D,w.ownsMap Tryz.prog 3 hdR b B D ∧ DatIs B D M
theorem MapIs.of (hown:w.ownsMap Tryz.prog 3 hdR b nn D) (h:DatIs B D M):MapIs B w b M:=by
 refine ⟨D,?_,h⟩
 have hs:=size_keys hown h
 obtain ⟨es,clock,hb,F,_,rfl⟩:=hown
 exact ⟨es,clock,hb,F,by rwa [Maps.size_eq,length_read] at hs,rfl⟩
theorem MapIs.lt (h:MapIs B w b M):b < w.heap.size:=by obtain ⟨D,h,_⟩:=h; exact h.lt
theorem MapIs.kept {row:Option Nat} (h:MapIs B w b M) (hg:w.grownBy w' row) (hne:row ≠ some b):MapIs B w' b M:=by
 obtain ⟨D,h,hd⟩:=h
 exact ⟨D,h.kept hg (fun e=>hne e.symm),hd⟩
theorem MapIs.below (h:MapIs B w b M) (hb:Below w.heap.size w w'):MapIs B w' b M:=h.kept (row:=none) ⟨hb.os,hb.tape,hb.output,hb.size,fun k hk _=>hb.block k hk⟩ (by simp)
theorem MapIs.made (B:Nat) (w:World):MapIs B (w.alloc (.map #[] 0)) w.heap.size (fun _=>none):=.of (World.ownsMap_made w _ _ _) (.start B)
theorem MapIs.no_cell (h:MapIs B w b M) (off:Nat) (p:Option Nat):w.cell? ⟨b,off,p⟩ = none:=by
 obtain ⟨D,⟨es,clock,hb,_⟩,_⟩:=h
 simp [World.cell?,hb]
theorem MapIs.small (h:MapIs B w b M) {i:Int} (hi:(M i).isSome = true):0 ≤ i ∧ i < (B:Int):=by obtain ⟨D,_,hd⟩:=h; exact hd.small i hi
theorem MapIs.drew (h:MapIs B w b M):MapIs B w.drew b M:=h
end
theorem below_row {w w':World} (hb:Below w.heap.size w w') (row:Option Nat):w.grownBy w' row:=⟨hb.os,hb.tape,hb.output,hb.size,fun k hk _=>hb.block k hk⟩
structure MapT (t e:TypeId) (z:Value):Prop where
 under:Tryz.prog.underlying t = some (.map 3 e)
 zero:∀ w,(zeroValue e).run Tryz.prog w = .ok z w
section
variable {w:World} {b B:Nat} {M:Int → Option Value} {t e:TypeId} {z:Value}
theorem MapIs.run_ok (h:MapIs B w b M) (hT:MapT t e z) {i:Int} (hi:(Lit.int .i64 i).wf = true) :
  (Instr.lookup t (.map (some b)) (.int .i64 i) true).run Tryz.prog w = .ok (.tuple #[(M i).getD z,.bool (M i).isSome]) w:=by
 obtain ⟨D,hown,hd⟩:=h
 obtain ⟨v,ps,hrun,hv⟩:=hown.look_ok keyI hT.under (hT.zero w) (zd:=.held z) (zp:=[]) rfl (keyOfI hi)
 obtain rfl:v = (M i).getD z:=by
  rw [hd.at_] at hv
  simp only [hdR,Option.some.injEq,Prod.mk.injEq,DataW.held.injEq] at hv
  exact hv.1
 rw [hd.has_] at hrun
 exact hrun
theorem MapIs.run_at (h:MapIs B w b M) (hT:MapT t e z) {i:Int} (hi:(Lit.int .i64 i).wf = true) :
  (Instr.lookup t (.map (some b)) (.int .i64 i) false).run Tryz.prog w = .ok ((M i).getD z) w:=by
 obtain ⟨D,hown,hd⟩:=h
 obtain ⟨v,ps,hrun,hv⟩:=hown.lookup keyI hT.under (hT.zero w) (zd:=.held z) (zp:=[]) rfl (keyOfI hi)
 obtain rfl:v = (M i).getD z:=by
  rw [hd.at_] at hv
  simp only [hdR,Option.some.injEq,Prod.mk.injEq,DataW.held.injEq] at hv
  exact hv.1
 exact hrun
theorem MapIs.run_put (h:MapIs B w b M) (hT:MapT t e z) (hB:B < 1000) {i:Int} (h0:0 ≤ i) (h1:i < (B:Int)) (u:Value) :
  ∃ w',(Instr.mapUpdate t (.map (some b)) (.int .i64 i) u).run Tryz.prog w = .ok () w' ∧ MapIs B w' b (fun j=>if j = i then some u else M j) ∧ w.grownBy w' (some b):=by
 obtain ⟨D,hown,hd⟩:=h
 obtain ⟨w',hrun,r1,r2⟩:=hown.update keyI hT.under (by unfold maxLen; omega) (keyOfI (wf64 h0 (by omega))) (val:=u) (d:=.held u) (ps:=[]) rfl
 exact ⟨w',hrun,.of r1 (hd.put hown.isMap h0 h1 u),r2⟩
theorem MapIs.run_del (h:MapIs B w b M) (hT:MapT t e z) (ty:TypeId) {i:Int} (hi:(Lit.int .i64 i).wf = true) :
  ∃ w',(Builtin.delete_ #[t,3] ty #[.map (some b),.int .i64 i]).run Tryz.prog w = .ok (.tuple #[]) w' ∧ MapIs B w' b (fun j=>if j = i then none else M j) ∧ w.grownBy w' (some b):=by
 obtain ⟨D,hown,hd⟩:=h
 obtain ⟨w',hrun,r1,r2⟩:=hown.drop keyI hT.under (keyOfI hi) ty
 exact ⟨w',hrun,.of r1 (hd.del i),r2.grown⟩
end
end Go.Proofs.YtehimhbgakpenaaGreat.Fd
