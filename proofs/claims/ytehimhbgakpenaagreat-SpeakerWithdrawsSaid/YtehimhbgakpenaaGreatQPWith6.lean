/-
  The texts EqS, SlEq, Clone, one after the other.
-/
import Derived.Test.YtehimhbgakpenaaGreatQPWith1
import Derived.Laws.StructEq
import Derived.Test.YtehimhbgakpenaaGreatQPWith5
namespace Go.Proofs.YtehimhbgakpenaaGreat
set_option linter.unusedVariables false
open Go.RowKit
theorem ad_fields:Tryz.prog.underlying 169 = some (.struct (Tryz.prog.fieldsOf 169)):=by kernel_rfl
theorem pf_fields:Tryz.prog.underlying 181 = some (.struct (Tryz.prog.fieldsOf 181)):=by kernel_rfl
theorem ad_held:Tryz.prog.stoodInHeld 169 = false:=by kernel_rfl
theorem pf_held:Tryz.prog.stoodInHeld 181 = false:=by kernel_rfl
theorem ad_guard:Tryz.prog.eqGuardType Tryz.prog.depth 169 = false:=by kernel_rfl
theorem pf_guard:Tryz.prog.eqGuardType Tryz.prog.depth 181 = false:=by kernel_rfl
abbrev adA (x:Ad):Value:=.agg #[.int .i64 x.1,.int .i64 x.2.1,.int .i64 x.2.2]
abbrev pfA (x:Pf):Value:=.agg #[.int .u32 (x.1:Int),.int .i64 x.2]
theorem ad_fl:((Tryz.prog.fieldsOf 169).toList.map fun f=>(f.name != "_",f.type,f.offset)) = [(true,3,0),(true,3,1),(true,3,2)]:=by kernel_rfl
theorem eq_ad (w:World) (x y:Ad):(Op.equalIn 10000 169 (adA x) (adA y)).run Tryz.prog w = .ok (decide (x = y)) w:=by
 rw [show (10000:Nat) = 9999 + 1 from rfl,run_equalIn_agg w 9999 _ _ _ ad_fields ad_held]
 have h:=ad_fl
 obtain ⟨f0,f1,f2,hf,n0,t0,o0,n1,t1,o1,n2,t2,o2⟩:∃ f0 f1 f2:Field,(Tryz.prog.fieldsOf 169).toList = [f0,f1,f2] ∧ (f0.name != "_") = true ∧ f0.type = 3 ∧ f0.offset = 0 ∧ (f1.name != "_") = true ∧ f1.type = 3 ∧ f1.offset = 1 ∧ (f2.name != "_") = true ∧ f2.type = 3 ∧ f2.offset = 2:=by
  generalize (Tryz.prog.fieldsOf 169).toList = l at h
  rcases l with _ | ⟨f0,_ | ⟨f1,_ | ⟨f2,_ | ⟨f3,l⟩⟩⟩⟩
  all_goals simp at h
  obtain ⟨⟨a,b,c⟩,⟨d,e,f⟩,g,i,j⟩:=h
  exact ⟨f0,f1,f2,rfl,by simpa using a,b,c,by simpa using d,e,f,by simpa using g,i,j⟩
 rw [hf]
 obtain ⟨x0,x1,x2⟩:=x
 obtain ⟨y0,y1,y2⟩:=y
 simp only [bne_iff_ne] at n0 n1 n2
 simp [Op.eqFields,n0,n1,n2,t0,t1,t2,o0,o1,o2,part,sizeOf]
 have E:=fun (W:World) (a b:Int)=>run_equalIn_int (P:=Tryz.prog) W 9998 3 .i64 .i64 a b Tryz.underlying3
 simp only [show (9998 + 1:Nat) = 9999 from rfl] at E
 simp only [E,Result.andThen_ok]
 by_cases h0:x0 = y0 <;> by_cases h1:x1 = y1 <;> by_cases h2:x2 = y2 <;> simp [h0,h1,h2]
theorem pf_fl:((Tryz.prog.fieldsOf 181).toList.map fun f=>(f.name != "_",f.type,f.offset)) = [(true,179,0),(true,3,1)]:=by kernel_rfl
theorem eq_pf (w:World) (x y:Pf):(Op.equalIn 10000 181 (pfA x) (pfA y)).run Tryz.prog w = .ok (decide (x = y)) w:=by
 rw [show (10000:Nat) = 9999 + 1 from rfl,run_equalIn_agg w 9999 _ _ _ pf_fields pf_held]
 have h:=pf_fl
 obtain ⟨f0,f1,hf,n0,t0,o0,n1,t1,o1⟩:∃ f0 f1:Field,(Tryz.prog.fieldsOf 181).toList = [f0,f1] ∧ (f0.name != "_") = true ∧ f0.type = 179 ∧ f0.offset = 0 ∧ (f1.name != "_") = true ∧ f1.type = 3 ∧ f1.offset = 1:=by
  generalize (Tryz.prog.fieldsOf 181).toList = l at h
  rcases l with _ | ⟨f0,_ | ⟨f1,_ | ⟨f2,l⟩⟩⟩
  all_goals simp at h
  obtain ⟨⟨a,b,c⟩,d,e,f⟩:=h
  exact ⟨f0,f1,rfl,by simpa using a,b,c,by simpa using d,e,f⟩
 rw [hf]
 obtain ⟨x0,x1⟩:=x
 obtain ⟨y0,y1⟩:=y
 simp only [bne_iff_ne] at n0 n1
 simp [Op.eqFields,n0,n1,t0,t1,o0,o1,part,sizeOf]
 have E:=fun (W:World) (a b:Int)=>run_equalIn_int (P:=Tryz.prog) W 9998 3 .i64 .i64 a b Tryz.underlying3
 have F:=fun (W:World) (a b:Int)=>run_equalIn_int (P:=Tryz.prog) W 9998 179 .u32 .u32 a b Tryz.underlying179
 simp only [show (9998 + 1:Nat) = 9999 from rfl] at E F
 simp only [E,F,Result.andThen_ok]
 by_cases h0:x0 = y0 <;> by_cases h1:x1 = y1 <;> simp [h0,h1] <;> omega
theorem neq_ad (w:World) (x y:Ad):(binOp .neq 169 (adA x) (adA y)).run Tryz.prog w = .ok (.bool (!decide (x = y))) w:=by rw [run_neq_struct,eq_ad]; rfl
theorem eql_ad (w:World) (x y:Ad):(binOp .eql 169 (adA x) (adA y)).run Tryz.prog w = .ok (.bool (decide (x = y))) w:=by rw [run_eql_struct,eq_ad]; rfl
theorem neq_pf (w:World) (x y:Pf):(binOp .neq 181 (pfA x) (pfA y)).run Tryz.prog w = .ok (.bool (!decide (x = y))) w:=by rw [run_neq_struct,eq_pf]; rfl
end Go.Proofs.YtehimhbgakpenaaGreat

namespace Go.Proofs.YtehimhbgakpenaaGreat
set_option linter.unusedVariables false
open Go.RowKit
set_option maxRecDepth 100000 in
set_option maxHeartbeats 3200000 in
theorem sleq_pf (w:World) (A B:Option Addr) (n c m d:Nat) (xs ys:List Pf) (hA:Rd w A (pfV xs)) (hB:Rd w B (pfV ys)) (hn:xs.length = n) (hm:ys.length = m) (b1:n ≤ 9223372036854775807) :
  Calls Tryz.prog 165 #[.slice A n c,.slice B m d] w fun e w'=>e = .returned (.bool (decide (xs = ys))) ∧ Below w.heap.size w w':=by
 obtain ⟨R,hR⟩:∃ R,decide (xs = ys) = R:=⟨_,rfl⟩
 rw [hR]
 have hF:xs ≠ ys → R = false:=fun h=>by rw [← hR]; exact decide_eq_false h
 have hT:xs = ys → R = true:=fun h=>by rw [← hR]; exact decide_eq_true h
 clear hR
 by_cases hnm:n = m
 rotate_left
 ·obtain rfl:=hF (fun h=>hnm (by rw [← hn,← hm,h]))
  have e2b:((n:Int) != (m:Int)) = true:=by simp; omega
  clear hnm hn hm hF hT
  go_enter Tryz.func165,Tryz.ntmps165
  go_wp2_with fail
  go_ret
  exact ⟨rfl,Below.refl _ _⟩
 subst hnm
 have S:=((St.start w).read hB).read hA
 clear hA hB
 replace hn:=Lib.hid hn
 replace hm:=Lib.hid hm
 replace hF:=Lib.hid hF
 replace hT:=Lib.hid hT
 go_enter Tryz.func165,Tryz.ntmps165
 go_wp2_with fail
 go_loopw [13] (fun v13 wr=>∃ i:Nat,v13 = .int .i64 i ∧ i ≤ n ∧ Hid (xs.take i = ys.take i) ∧ St w wr [] [(A,pfV xs),(B,pfV ys)]) (fun v13 _=>n - (intOf v13).toNat)
 case atStart=>exact ⟨0,rfl,by omega,rfl,S⟩
 case round =>
  clear S
  obtain ⟨i,rfl,hi,htk,S⟩:=hrel
  by_cases him:i < n
  ·have hkl:i < xs.length:=by have:=hn.out; omega
   have hkl':i < ys.length:=by have:=hm.out; omega
   obtain ⟨b,off,rfl,hc⟩:=rd_pf (S.r 0 rfl) (by omega)
   obtain ⟨b',off',rfl,hc'⟩:=rd_pf (S.r 1 rfl) (by omega)
   obtain ⟨x0,x1⟩:=hc i hkl
   obtain ⟨y0,y1⟩:=hc' i hkl'
   have hs1:=List.take_succ_eq_append_getElem hkl
   have hs2:=List.take_succ_eq_append_getElem hkl'
   have hne:xs[i] ≠ ys[i] → R = false:=fun h=>hF.out (fun h2=>h (by subst h2; rfl))
   clear hc hc'
   generalize xs[i] = x at *
   generalize ys[i] = y at *
   obtain ⟨p0,p1⟩:=x
   obtain ⟨q0,q1⟩:=y
   simp only at x0 x1 y0 y1
   have NE:=fun W=>neq_pf W (p0,p1) (q0,q1)
   have hG:=pf_guard
   by_cases e:(p0,p1) = (q0,q1)
   ·have htk2:Hid (xs.take (i + 1) = ys.take (i + 1)):=by show _ = _; rw [hs1,hs2,htk.out,e]
    rw [decide_eq_true e] at NE
    clear hs1 hs2 hne e
    go_wp2_with fail
    go_quiet (fail)
    go_wp2_with fail
    go_round
    case rel=>exact ⟨i + 1,by go_num,by omega,htk2,S.drewN nq⟩
    case measure=>simp [intOf]; omega
   ·obtain rfl:=hne e
    rw [decide_eq_false e] at NE
    clear hs1 hs2 hne e
    go_wp2_with fail
    go_quiet (fail)
    go_wp2_with fail
    go_ret
    exact ⟨rfl,below_drewN S.b nq⟩
  ·obtain rfl:i = n:=by omega
   have heq:xs = ys:=by
    have:=htk.out
    rwa [List.take_of_length_le (by have:=hn.out; omega),List.take_of_length_le (by have:=hm.out; omega)] at this
   obtain rfl:=hT.out heq
   clear heq
   go_wp2_with fail
   go_ret
   exact ⟨rfl,S.b⟩
set_option maxHeartbeats 800000 in
theorem same1_any (w:World) (x y:Ad):Calls Tryz.prog 163 #[adA x,adA y] w fun e w'=>e = .returned (.bool (decide (x = y))) ∧ Below w.heap.size w w':=by
 have S:=((St.start w).new' #[.int .i64 x.1,.int .i64 x.2.1,.int .i64 x.2.2] 169 w.heap.size _ rfl rfl).new' #[.int .i64 y.1,.int .i64 y.2.1,.int .i64 y.2.2] 169 (w.heap.size + 1) _ (by simp) rfl
 have hbb:=S.b
 have c0:=S.c 1 0 rfl rfl
 have c1:=S.c 1 1 rfl rfl
 have c2:=S.c 1 2 rfl rfl
 have d0:=S.c 0 0 rfl rfl
 have d1:=S.c 0 1 rfl rfl
 have d2:=S.c 0 2 rfl rfl
 have NE:=fun W=>eql_ad W x y
 have hG:=ad_guard
 generalize decide (x = y) = r at *
 clear S
 go_enter Tryz.func163,Tryz.ntmps163
 go_wp2_with fail
 go_ret
 exact ⟨rfl,hbb⟩
set_option maxRecDepth 100000 in
set_option maxHeartbeats 3200000 in
theorem sleq_ad (w:World) (A B:Option Addr) (n c m d:Nat) (xs ys:List Ad) (hA:Rd w A (adV xs)) (hB:Rd w B (adV ys)) (hn:xs.length = n) (hm:ys.length = m) (b1:n ≤ 9223372036854775807) :
  Calls Tryz.prog 164 #[.slice A n c,.slice B m d,.func (.func 163) #[] #[]] w fun e w'=>e = .returned (.bool (decide (xs = ys))) ∧ Below w.heap.size w w':=by
 obtain ⟨R,hR⟩:∃ R,decide (xs = ys) = R:=⟨_,rfl⟩
 rw [hR]
 have hF:xs ≠ ys → R = false:=fun h=>by rw [← hR]; exact decide_eq_false h
 have hT:xs = ys → R = true:=fun h=>by rw [← hR]; exact decide_eq_true h
 clear hR
 by_cases hnm:n = m
 rotate_left
 ·obtain rfl:=hF (fun h=>hnm (by rw [← hn,← hm,h]))
  have e2b:((n:Int) != (m:Int)) = true:=by simp; omega
  clear hnm hn hm hF hT
  go_enter Tryz.func164,Tryz.ntmps164
  go_wp2_with fail
  go_ret
  exact ⟨rfl,Below.refl _ _⟩
 subst hnm
 have S:=((St.start w).read hB).read hA
 clear hA hB
 replace hn:=Lib.hid hn
 replace hm:=Lib.hid hm
 replace hF:=Lib.hid hF
 replace hT:=Lib.hid hT
 go_enter Tryz.func164,Tryz.ntmps164
 go_wp2_with fail
 go_loopw [17] (fun v13 wr=>∃ i:Nat,v13 = .int .i64 i ∧ i ≤ n ∧ Hid (xs.take i = ys.take i) ∧ St w wr [] [(A,adV xs),(B,adV ys)]) (fun v13 _=>n - (intOf v13).toNat)
 case atStart=>exact ⟨0,rfl,by omega,rfl,S⟩
 case round =>
  clear S
  obtain ⟨i,rfl,hi,htk,S⟩:=hrel
  by_cases him:i < n
  ·have hkl:i < xs.length:=by have:=hn.out; omega
   have hkl':i < ys.length:=by have:=hm.out; omega
   obtain ⟨b,off,rfl,hc⟩:=rd_ad (S.r 0 rfl) (by omega)
   obtain ⟨b',off',rfl,hc'⟩:=rd_ad (S.r 1 rfl) (by omega)
   obtain ⟨x0,x1,x2⟩:=hc i hkl
   obtain ⟨y0,y1,y2⟩:=hc' i hkl'
   have hs1:=List.take_succ_eq_append_getElem hkl
   have hs2:=List.take_succ_eq_append_getElem hkl'
   have hne:xs[i] ≠ ys[i] → R = false:=fun h=>hF.out (fun h2=>h (by subst h2; rfl))
   clear hc hc'
   generalize xs[i] = x at *
   generalize ys[i] = y at *
   have b2:=below_new' wr (.cells #[.int .i64 x.1,.int .i64 x.2.1,.int .i64 x.2.2] 169)
   have y0:=cell_later b2 y0
   have y1:=cell_later b2 y1
   have y2:=cell_later b2 y2
   have S2:=(S.new' #[.int .i64 x.1,.int .i64 x.2.1,.int .i64 x.2.2] 169 wr.heap.size _ rfl rfl).new' #[.int .i64 y.1,.int .i64 y.2.1,.int .i64 y.2.2] 169 (wr.heap.size + 1) _ (by simp) rfl
   have c0:=S2.c 1 0 rfl rfl
   have c1:=S2.c 1 1 rfl rfl
   have c2:=S2.c 1 2 rfl rfl
   have d0:=S2.c 0 0 rfl rfl
   have d1:=S2.c 0 1 rfl rfl
   have d2:=S2.c 0 2 rfl rfl
   have SM:=fun W=>same1_any W x y
   by_cases e:x = y
   ·have htk2:Hid (xs.take (i + 1) = ys.take (i + 1)):=by show _ = _; rw [hs1,hs2,htk.out,e]
    rw [decide_eq_true e] at SM
    replace SM:=Lib.hid SM
    clear hs1 hs2 hne e b2
    go_wp2_with fail
    (with_reducible refine (SM.out _).mono ?_)
    rintro e w2 ⟨rfl,hb⟩
    replace S2:=S2.call hb
    clear c0 c1 c2 d0 d1 d2
    go_wp2_with fail
    go_round
    case rel=>exact ⟨i + 1,by go_num,by omega,htk2,S2.keepBoxes _ (by simp)⟩
    case measure=>simp [intOf]; omega
   ·obtain rfl:=hne e
    rw [decide_eq_false e] at SM
    replace SM:=Lib.hid SM
    clear hs1 hs2 hne e b2
    go_wp2_with fail
    (with_reducible refine (SM.out _).mono ?_)
    rintro e w2 ⟨rfl,hb⟩
    replace S2:=S2.call hb
    clear c0 c1 c2 d0 d1 d2
    go_wp2_with fail
    go_ret
    exact ⟨rfl,S2.b⟩
  ·obtain rfl:i = n:=by omega
   have heq:xs = ys:=by
    have:=htk.out
    rwa [List.take_of_length_le (by have:=hn.out; omega),List.take_of_length_le (by have:=hm.out; omega)] at this
   obtain rfl:=hT.out heq
   clear heq
   go_wp2_with fail
   go_ret
   exact ⟨rfl,S.b⟩
end Go.Proofs.YtehimhbgakpenaaGreat

namespace Go.Proofs.YtehimhbgakpenaaGreat
set_option linter.unusedVariables false
open Go.RowKit
def ClonePost (w:World) (T:TypeId) (size n:Nat) (xs:List Value) (e:Ending) (w':World):Prop :=
 ∃ A c,e = .returned (.slice A n c) ∧ w'.ownsRow w.heap.size T size (.slice A n c) n xs ∧ Below w.heap.size w w'
set_option maxRecDepth 100000 in
set_option maxHeartbeats 800000 in
theorem clone_ad (w:World) (A:Option Addr) (n c:Nat) (l:List Ad) (hr:Rd w A (adV l)) (hn:l.length = n) (hb:n ≤ 1000000) :
  Calls Tryz.prog 157 #[.slice A n c] w (ClonePost w 169 3 n (adV l)):=by
 rcases A with _ | ad
 ·have h0:=hr.nil_len
  rw [adV_len] at h0
  obtain rfl:l = []:=List.eq_nil_of_length_eq_zero (by omega)
  subst hn
  have hE:=fun W=>Lib.run_eql_slice_nil W 38 169 none 0 c 0 0 Tryz.underlying38
  go_enter Tryz.func157,Tryz.ntmps157
  go_wp2_with fail
  go_ret
  exact ⟨none,0,rfl,World.ownsRow_nil _ _ _ _,Below.refl _ _⟩
 ·have hl:(adV l).length = n * 3:=by rw [adV_len,hn]
  clear hn
  have hE:=fun W=>Lib.run_eql_slice_nil W 38 169 (some ad) n c 0 0 Tryz.underlying38
  go_enter Tryz.func157,Tryz.ntmps157
  go_wp2_with (at_builtin; refine wpList_app rfl adT (.tmp 5) (.tmp 6) rfl w.heap.size rfl (own_empty _ _ _) (m:=n) rfl hl (hr.below (below_new' _ _)) (adV_one l) (by simp only [maxLen]; omega) (by omega) (by simp) n (adV l) (by omega) (by simp) ?_; intro v' w' ho hb')
  go_ret
  obtain ⟨A',c',rfl,_⟩:=own_rd ho
  exact ⟨A',c',rfl,ho,(below_new' _ _).trans hb'⟩
set_option maxRecDepth 100000 in
set_option maxHeartbeats 800000 in
theorem clone_pf (w:World) (A:Option Addr) (n c:Nat) (l:List Pf) (hr:Rd w A (pfV l)) (hn:l.length = n) (hb:n ≤ 1000000) :
  Calls Tryz.prog 86 #[.slice A n c] w (ClonePost w 181 2 n (pfV l)):=by
 rcases A with _ | ad
 ·have h0:=hr.nil_len
  rw [pfV_len] at h0
  obtain rfl:l = []:=List.eq_nil_of_length_eq_zero (by omega)
  subst hn
  have hE:=fun W=>Lib.run_eql_slice_nil W 39 181 none 0 c 0 0 Tryz.underlying39
  go_enter Tryz.func86,Tryz.ntmps86
  go_wp2_with fail
  go_ret
  exact ⟨none,0,rfl,World.ownsRow_nil _ _ _ _,Below.refl _ _⟩
 ·have hl:(pfV l).length = n * 2:=by rw [pfV_len,hn]
  clear hn
  have hE:=fun W=>Lib.run_eql_slice_nil W 39 181 (some ad) n c 0 0 Tryz.underlying39
  go_enter Tryz.func86,Tryz.ntmps86
  go_wp2_with (at_builtin; refine wpList_app rfl pfT (.tmp 5) (.tmp 6) rfl w.heap.size rfl (own_empty _ _ _) (m:=n) rfl hl (hr.below (below_new' _ _)) (pfV_one l) (by simp only [maxLen]; omega) (by omega) (by simp) n (pfV l) (by omega) (by simp) ?_; intro v' w' ho hb')
  go_ret
  obtain ⟨A',c',rfl,_⟩:=own_rd ho
  exact ⟨A',c',rfl,ho,(below_new' _ _).trans hb'⟩
set_option maxRecDepth 100000 in
set_option maxHeartbeats 3200000 in
theorem sleq_ad2 (w:World) (A B:Option Addr) (n c m d:Nat) (xs ys:List Ad) (hA:Rd w A (adV xs)) (hB:Rd w B (adV ys)) (hn:xs.length = n) (hm:ys.length = m) (b1:n ≤ 9223372036854775807) :
  Calls Tryz.prog 173 #[.slice A n c,.slice B m d] w fun e w'=>e = .returned (.bool (decide (xs = ys))) ∧ Below w.heap.size w w':=by
 obtain ⟨R,hR⟩:∃ R,decide (xs = ys) = R:=⟨_,rfl⟩
 rw [hR]
 have hF:xs ≠ ys → R = false:=fun h=>by rw [← hR]; exact decide_eq_false h
 have hT:xs = ys → R = true:=fun h=>by rw [← hR]; exact decide_eq_true h
 clear hR
 by_cases hnm:n = m
 rotate_left
 ·obtain rfl:=hF (fun h=>hnm (by rw [← hn,← hm,h]))
  have e2b:((n:Int) != (m:Int)) = true:=by simp; omega
  clear hnm hn hm hF hT
  go_enter Tryz.func173,Tryz.ntmps173
  go_wp2_with fail
  go_ret
  exact ⟨rfl,Below.refl _ _⟩
 subst hnm
 have S:=((St.start w).read hB).read hA
 clear hA hB
 replace hn:=Lib.hid hn
 replace hm:=Lib.hid hm
 replace hF:=Lib.hid hF
 replace hT:=Lib.hid hT
 go_enter Tryz.func173,Tryz.ntmps173
 go_wp2_with fail
 go_loopw [13] (fun v13 wr=>∃ i:Nat,v13 = .int .i64 i ∧ i ≤ n ∧ Hid (xs.take i = ys.take i) ∧ St w wr [] [(A,adV xs),(B,adV ys)]) (fun v13 _=>n - (intOf v13).toNat)
 case atStart=>exact ⟨0,rfl,by omega,rfl,S⟩
 case round =>
  clear S
  obtain ⟨i,rfl,hi,htk,S⟩:=hrel
  by_cases him:i < n
  ·have hkl:i < xs.length:=by have:=hn.out; omega
   have hkl':i < ys.length:=by have:=hm.out; omega
   obtain ⟨b,off,rfl,hc⟩:=rd_ad (S.r 0 rfl) (by omega)
   obtain ⟨b',off',rfl,hc'⟩:=rd_ad (S.r 1 rfl) (by omega)
   obtain ⟨x0,x1,x2⟩:=hc i hkl
   obtain ⟨y0,y1,y2⟩:=hc' i hkl'
   have hs1:=List.take_succ_eq_append_getElem hkl
   have hs2:=List.take_succ_eq_append_getElem hkl'
   have hne:xs[i] ≠ ys[i] → R = false:=fun h=>hF.out (fun h2=>h (by subst h2; rfl))
   clear hc hc'
   generalize xs[i] = x at *
   generalize ys[i] = y at *
   obtain ⟨p0,p1,p2⟩:=x
   obtain ⟨q0,q1,q2⟩:=y
   simp only at x0 x1 x2 y0 y1 y2
   have NE:=fun W=>neq_ad W (p0,p1,p2) (q0,q1,q2)
   have hG:=ad_guard
   by_cases e:(p0,p1,p2) = (q0,q1,q2)
   ·have htk2:Hid (xs.take (i + 1) = ys.take (i + 1)):=by show _ = _; rw [hs1,hs2,htk.out,e]
    rw [decide_eq_true e] at NE
    clear hs1 hs2 hne e
    go_wp2_with fail
    go_quiet (fail)
    go_wp2_with fail
    go_round
    case rel=>exact ⟨i + 1,by go_num,by omega,htk2,S.drewN nq⟩
    case measure=>simp [intOf]; omega
   ·obtain rfl:=hne e
    rw [decide_eq_false e] at NE
    clear hs1 hs2 hne e
    go_wp2_with fail
    go_quiet (fail)
    go_wp2_with fail
    go_ret
    exact ⟨rfl,below_drewN S.b nq⟩
  ·obtain rfl:i = n:=by omega
   have heq:xs = ys:=by
    have:=htk.out
    rwa [List.take_of_length_le (by have:=hn.out; omega),List.take_of_length_le (by have:=hm.out; omega)] at this
   obtain rfl:=hT.out heq
   clear heq
   go_wp2_with fail
   go_ret
   exact ⟨rfl,S.b⟩
end Go.Proofs.YtehimhbgakpenaaGreat
