/-
  The texts Fle, LaP, one after the other.
-/
import Derived.Test.YtehimhbgakpenaaGreatQPWith1
namespace Go.Proofs.YtehimhbgakpenaaGreat
set_option linter.unusedVariables false
open Go.RowKit
def sm:List UInt8 → Int
 | []=>0
 | b :: r=>(b.toNat:Int) + sm r
def wt:List UInt8 → Int
 | []=>0
 | b :: r=>(r.length + 1:Int) * (b.toNat:Int) + wt r
theorem sm_append (a b:List UInt8):sm (a ++ b) = sm a + sm b:=by
 induction a with
 | nil=>simp [sm]
 | cons x a ih=>simp only [List.cons_append,sm,ih]; omega
theorem wt_append (a b:List UInt8):wt (a ++ b) = wt a + (b.length:Int) * sm a + wt b:=by
 induction a with
 | nil=>simp [sm,wt]
 | cons x a ih =>
   simp only [List.cons_append,sm,wt,ih,List.length_append]
   have h:((a.length + b.length:Nat):Int) + 1 = (a.length + 1:Int) + (b.length:Int):=by omega
   rw [h,Int.add_mul,Int.mul_add]
   omega
theorem sm_take (bs:List UInt8) {k:Nat} (h:k < bs.length):sm (bs.take (k + 1)) = sm (bs.take k) + (bs[k].toNat:Int):=by
 rw [List.take_succ_eq_append_getElem h,sm_append]; simp [sm]
theorem wt_take (bs:List UInt8) {k:Nat} (h:k < bs.length):wt (bs.take (k + 1)) = wt (bs.take k) + sm (bs.take k) + (bs[k].toNat:Int):=by
 rw [List.take_succ_eq_append_getElem h,wt_append]; simp [wt]
theorem tmod_bd (n:Int):-254 ≤ n.tmod 255 ∧ n.tmod 255 ≤ 254:=by
 rcases Int.le_total 0 n with h | h
 ·rw [Int.tmod_eq_emod_of_nonneg h]; omega
 ·have e:n.tmod 255 = -((-n).tmod 255):=by rw [Int.neg_tmod,Int.neg_neg]
  rw [e,Int.tmod_eq_emod_of_nonneg (by omega)]; omega
theorem tmod_red (n:Int):(n.tmod 255 + 255) % 255 = n % 255:=by
 rcases Int.le_total 0 n with h | h
 ·rw [Int.tmod_eq_emod_of_nonneg h]; omega
 ·have e:n.tmod 255 = -((-n).tmod 255):=by rw [Int.neg_tmod,Int.neg_neg]
  rw [e,Int.tmod_eq_emod_of_nonneg (by omega)]; omega
set_option maxHeartbeats 400000 in
theorem reduce_any (n:Int) (w:World) :
  Calls Tryz.prog 189 #[.int .i64 n] w fun e w'=>e = .returned (.int .i64 (n % 255)) ∧ w = w':=by
 obtain ⟨h1,h2⟩:=tmod_bd n
 go_enter Tryz.func189,Tryz.ntmps189
 go_wp2
 go_ret
 exact ⟨by rw [← tmod_red n]; rfl,rfl⟩
set_option maxHeartbeats 400000 in
theorem update_any (x y:Int) (A:Option Addr) (n cap:Nat) (bs:List UInt8) (w:World) (hb:Bs w A bs) (hn:bs.length = n) (hl:n ≤ 1000000000) :
  Calls Tryz.prog 188 #[.int .i64 x,.int .i64 y,.slice A n cap] w fun e w' =>
   e = .returned (.tuple #[.int .i64 ((x + sm bs) % 255),.int .i64 ((y + n * x + wt bs) % 255)]) ∧ w = w':=by
 subst hn
 go_enter Tryz.func188,Tryz.ntmps188
 go_wp2_with fail
 refine (reduce_any _ _).mono ?_
 rintro e w' ⟨rfl,rfl⟩
 go_wp2_with fail
 refine (reduce_any _ _).mono ?_
 rintro e w' ⟨rfl,rfl⟩
 go_wp2_with fail
 go_loop [0,1,16] (fun v0 v1 v16=>∃ (k:Nat) (f s:Int),k ≤ bs.length ∧ 0 ≤ f ∧ f < 255 ∧ 0 ≤ s ∧ s < 255 ∧ v16 = .int .i64 k ∧ v0 = .int .i64 f ∧ v1 = .int .i64 s ∧
  Hid (f = (x + sm (bs.take k)) % 255) ∧ Hid (s = (y + k * x + wt (bs.take k)) % 255)) (fun _ _ i=>bs.length - (intOf i).toNat)
 case atStart=>exact ⟨0,x % 255,y % 255,Nat.zero_le _,by omega,by omega,by omega,by omega,rfl,rfl,rfl,by simp [sm,Hid],by simp [wt,Hid]⟩
 case round =>
  obtain ⟨k,f,s,hk,hf0,hf1,hs0,hs1,rfl,rfl,rfl,HF,HS⟩:=hrel
  by_cases hlt:k < bs.length
  ·obtain ⟨ad,rfl,hc⟩:=hb.get hlt
   have hb1:=bs[k].toNat_lt
   go_wp2_with fail
   go_round
   case rel =>
    refine ⟨k + 1,_,_,by omega,?_,?_,?_,?_,by go_num,rfl,rfl,?_,?_⟩
    ·omega
    ·omega
    ·omega
    ·omega
    ·rw [HF.out,sm_take bs hlt]; show _ % 255 = _ % 255; omega
    ·rw [HS.out,HF.out,wt_take bs hlt]; show _ % 255 = _ % 255
     have e:((k + 1:Nat):Int) * x = k * x + x:=by rw [Int.natCast_add,Int.add_mul]; simp
     rw [e]; omega
   case measure=>simp [intOf]; omega
  ·go_wp2_with fail
   go_ret2
   obtain rfl:k = bs.length:=by omega
   rw [List.take_length] at HF HS
   exact ⟨by rw [← HF.out,← HS.out]; rfl,rfl⟩
def fl1 (bs:List UInt8):Int:=sm bs % 255
def fl2 (bs:List UInt8):Int:=wt bs % 255
def chk (bs:List UInt8):Bool:=fl1 bs == 0 && fl2 bs == 0
theorem fl1_bd (bs:List UInt8):0 ≤ fl1 bs ∧ fl1 bs < 255:=by unfold fl1; omega
theorem fl2_bd (bs:List UInt8):0 ≤ fl2 bs ∧ fl2 bs < 255:=by unfold fl2; omega
set_option maxHeartbeats 400000 in
theorem sum_any (A:Option Addr) (n cap:Nat) (bs:List UInt8) (w:World) (hb:Bs w A bs) (hn:bs.length = n) (hl:n ≤ 1000000000) :
  Calls Tryz.prog 159 #[.slice A n cap] w fun e w'=>e = .returned (.tuple #[.int .i64 (fl1 bs),.int .i64 (fl2 bs)]) ∧ w = w':=by
 subst hn
 go_enter Tryz.func159,Tryz.ntmps159
 go_wp2_with fail
 refine (update_any _ _ A _ cap bs _ hb rfl hl).mono ?_
 rintro e w' ⟨rfl,rfl⟩
 go_wp2_with fail
 go_ret2
 exact ⟨by simp [fl1,fl2],rfl⟩
set_option maxHeartbeats 400000 in
theorem check_any (A:Option Addr) (n cap:Nat) (bs:List UInt8) (w:World) (hb:Bs w A bs) (hn:bs.length = n) (hl:n ≤ 1000000000) :
  Calls Tryz.prog 114 #[.slice A n cap] w fun e w'=>e = .returned (.bool (chk bs)) ∧ w = w':=by
 subst hn
 have H:∀ b,(fl1 bs == 0) = b → Calls Tryz.prog 114 #[.slice A bs.length cap] w fun e w'=>e = .returned (.bool (chk bs)) ∧ w = w':=by
  intro b hb0
  cases b
  all_goals
   go_enter Tryz.func114,Tryz.ntmps114
   go_wp2_with fail
   refine (sum_any A _ cap bs _ hb rfl hl).mono ?_
   rintro e w' ⟨rfl,rfl⟩
   go_wp2_with fail
   go_ret
   exact ⟨by simp [chk,hb0],rfl⟩
 exact H _ rfl
def zeroed (bs:List UInt8) (k:Nat):List UInt8:=(bs.set k 0).set (k + 1) 0
def sealX (bs:List UInt8) (k:Nat):Int:=(((bs.length:Int) - k - 1) % 255 * fl1 (zeroed bs k) - fl2 (zeroed bs k)) % 255
def sealY (bs:List UInt8) (k:Nat):Int:=(-fl1 (zeroed bs k) - sealX bs k) % 255
def sealed (bs:List UInt8) (k:Nat):List UInt8:=((zeroed bs k).set k (UInt8.ofNat (sealX bs k).toNat)).set (k + 1) (UInt8.ofNat (sealY bs k).toNat)
theorem sealX_bd (bs:List UInt8) (k:Nat):0 ≤ sealX bs k ∧ sealX bs k < 255:=by unfold sealX; omega
theorem sealY_bd (bs:List UInt8) (k:Nat):0 ≤ sealY bs k ∧ sealY bs k < 255:=by unfold sealY; omega
set_option maxHeartbeats 400000 in
theorem seal_any (A:Option Addr) (n cap k:Nat) (bs:List UInt8) (w:World) (hb:Bs w A bs) (hn:bs.length = n) (hl:n ≤ 1000000000) (hk:k + 2 ≤ n) (at_:Int) (hat:at_ = k) :
  Calls Tryz.prog 169 #[.slice A n cap,.int .i64 at_] w fun e w'=>∃ v,e = .returned (.tuple #[v,.int .i64 0]) ∧
   w'.ownsRow w.heap.size 5 1 v n ((sealed bs k).map u8v) ∧ Below w.heap.size w w':=by
 subst hn
 subst hat
 have hk1:¬ (k:Int) < 0:=by omega
 have hk2:¬ ((bs.length:Int) - 2 < k):=by omega
 go_enter Tryz.func169,Tryz.ntmps169
 go_wp2_with fail
 refine (clone_any A _ cap bs _ hb rfl (by omega)).mono ?_
 rintro e w1 ⟨v,rfl,hown,hbel⟩
 obtain ⟨g,c1,rfl,hg1,hg2,hown1⟩:=own_form hown (by omega)
 have hc0:=own_u8 hown1 (k:=k) (by omega)
 have hc1:=own_u8 hown1 (k:=k + 1) (by omega)
 have hf0:=hown1.frozenAt k
 have hf1:=hown1.frozenAt (k + 1)
 go_wp2_with fail
 have hown3:=((hown1.stored k (.int .u8 0)).1.stored (k + 1) (.int .u8 0)).1
 have hbel3:=(hbel.setCell (p:=⟨g,k,none⟩) hg1 (.int .u8 0)).setCell (p:=⟨g,k + 1,none⟩) hg1 (.int .u8 0)
 generalize (w1.setCell ⟨g,k,none⟩ (.int .u8 0)).setCell ⟨g,k + 1,none⟩ (.int .u8 0) = w2 at hown3 hbel3 ⊢
 rw [show ((bs.map u8v).set k (.int .u8 0)).set (k + 1) (.int .u8 0) = (zeroed bs k).map u8v from by simp [zeroed,List.map_set,u8v]] at hown3
 clear hown1 hown hbel hc0 hc1 hf0 hf1
 have hlz:(zeroed bs k).length = bs.length:=by simp [zeroed]
 obtain ⟨A3,c3,he3,hrd,_,_⟩:=own_rd hown3
 simp only [Value.slice.injEq,true_and] at he3
 obtain ⟨rfl,rfl⟩:=he3
 refine (sum_any _ _ c1 (zeroed bs k) _ hrd hlz hl).mono ?_
 rintro e w' ⟨rfl,rfl⟩
 have b1:=fl1_bd (zeroed bs k)
 have b2:=fl2_bd (zeroed bs k)
 have b3:=sealX_bd bs k
 have b4:=sealY_bd bs k
 have ex:Hid ((((bs.length:Int) - k - 1) % 255 * fl1 (zeroed bs k) - fl2 (zeroed bs k)) % 255 = sealX bs k):=rfl
 have ey:Hid ((-fl1 (zeroed bs k) - sealX bs k) % 255 = sealY bs k):=rfl
 have b5:0 ≤ ((bs.length:Int) - k - 1) % 255 ∧ ((bs.length:Int) - k - 1) % 255 < 255:=by omega
 have b6:0 ≤ ((bs.length:Int) - k - 1) % 255 * fl1 (zeroed bs k) ∧ ((bs.length:Int) - k - 1) % 255 * fl1 (zeroed bs k) ≤ 254 * 254 :=
  ⟨Int.mul_nonneg b5.1 b1.1,Int.mul_le_mul (by omega) (by omega) b1.1 (by omega)⟩
 have hc0:=own_u8 hown3 (k:=k) (by omega)
 have hc1:=own_u8 hown3 (k:=k + 1) (by omega)
 have hf0:=hown3.frozenAt k
 have hf1:=hown3.frozenAt (k + 1)
 go_wp2_with fail
 refine (reduce_any _ _).mono ?_
 rintro e w' ⟨rfl,rfl⟩
 go_wp2_with fail
 refine (reduce_any _ _).mono ?_
 rintro e w' ⟨rfl,rfl⟩
 rw [ex.out]
 go_wp2_with fail
 refine (reduce_any _ _).mono ?_
 rintro e w' ⟨rfl,rfl⟩
 rw [ey.out]
 go_wp2_with fail
 go_ret2
 have hown4:=((hown3.stored k (.int .u8 (sealX bs k))).1.stored (k + 1) (.int .u8 (sealY bs k))).1
 rw [show (((zeroed bs k).map u8v).set k (.int .u8 (sealX bs k))).set (k + 1) (.int .u8 (sealY bs k)) = (sealed bs k).map u8v from by
  simp [sealed,List.map_set,u8_ofInt b3.1 (by omega:sealX bs k < 256),u8_ofInt b4.1 (by omega:sealY bs k < 256)]] at hown4
 exact ⟨_,rfl,hown4,(hbel3.setCell (p:=⟨g,k,none⟩) hg1 _).setCell (p:=⟨g,k + 1,none⟩) hg1 _⟩
end Go.Proofs.YtehimhbgakpenaaGreat

namespace Go.Proofs.YtehimhbgakpenaaGreat
set_option linter.unusedVariables false
open Go.RowKit
def bit (b:Bool):Nat:=if b = true then 1 else 0
def headR (x:La):Rec:=(1,numB x.o.toNat 2 ++ numB x.s.toNat 4 ++ numB x.a.toNat 2 ++ numB (bit x.ov) 1)
def adR (x:Ad):Rec:=(2,numB x.1.toNat 2 ++ numB x.2.1.toNat 2 ++ numB x.2.2.toNat 2)
def pfR (x:Pf):Rec:=(3,numB x.1 4 ++ numB x.2.toNat 1)
def laRecs (x:La):List Rec:=headR x :: (x.adj.map adR ++ x.pre.map pfR) ++ [(4,[0,0])]
def laPlain (x:La):List UInt8:=encAll (laRecs x)
def laEnc (x:La):List UInt8:=sealed (laPlain x) ((laPlain x).length - 2)
theorem headR_len (x:La):(headR x).2.length = 9:=by simp [headR,numB_len]
theorem adR_len (x:Ad):(adR x).2.length = 6:=by simp [adR,numB_len]
theorem pfR_len (x:Pf):(pfR x).2.length = 5:=by simp [pfR,numB_len]
theorem encE_all (l:List Rec) (h:∀ r ∈ l,1 ≤ r.1 ∧ r.1 ≤ 255 ∧ r.2.length ≤ 65535):encE l = 0:=by
 induction l with
 | nil=>rfl
 | cons r l ih =>
   have:=h r (by simp)
   rw [encE,if_neg (by omega),if_neg (by omega)]
   exact ih fun q hq=>h q (by simp [hq])
theorem laRecs_ok (x:La):∀ r ∈ laRecs x,1 ≤ r.1 ∧ r.1 ≤ 255 ∧ r.2.length ≤ 65535:=by
 intro r hr
 simp only [laRecs,List.mem_append,List.mem_cons,List.mem_map,List.not_mem_nil,or_false] at hr
 rcases hr with (rfl | ⟨y,_,rfl⟩ | ⟨y,_,rfl⟩) | rfl
 ·rw [headR_len]; simp [headR]
 ·rw [adR_len]; simp [adR]
 ·rw [pfR_len]; simp [pfR]
 ·simp
theorem laRecs_E (x:La):encE (laRecs x) = 0:=encE_all _ (laRecs_ok x)
theorem laRecs_R (x:La):encR (laRecs x) = laPlain x:=by unfold encR; rw [laRecs_E,if_pos rfl]; rfl
theorem encAll_len (l:List Rec) (k:Nat) (h:∀ r ∈ l,r.2.length = k):(encAll l).length = l.length * (3 + k):=by
 induction l with
 | nil=>simp [encAll]
 | cons r l ih =>
   rw [encAll,List.length_append,enc1_len,h r (by simp),ih fun q hq=>h q (by simp [hq]),List.length_cons,Nat.add_mul]; omega
theorem laPlain_len (x:La):(laPlain x).length = 17 + x.adj.length * 9 + x.pre.length * 8:=by
 have h1:=encAll_len (x.adj.map adR) 6 (fun r hr=>by obtain ⟨y,_,rfl⟩:=List.mem_map.1 hr; exact adR_len y)
 have h2:=encAll_len (x.pre.map pfR) 5 (fun r hr=>by obtain ⟨y,_,rfl⟩:=List.mem_map.1 hr; exact pfR_len y)
 rw [List.length_map] at h1 h2
 simp only [laPlain,laRecs,List.cons_append,encAll,encAll_append,List.length_append,enc1_len,headR_len,h1,h2]
 simp
 omega
theorem laEnc_len (x:La):(laEnc x).length = 17 + x.adj.length * 9 + x.pre.length * 8:=by
 rw [laEnc,← laPlain_len]; simp [sealed,zeroed]
noncomputable def lencE (x:La):Int:=if vB x = true then 0 else 1
noncomputable def lencB (x:La):List UInt8:=if vB x = true then laEnc x else []
theorem adR_take (x:La) (k:Nat) (h:k < x.adj.length):headR x :: (x.adj.take (k + 1)).map adR = (headR x :: (x.adj.take k).map adR) ++ [adR x.adj[k]]:=by
 rw [List.take_succ_eq_append_getElem h,List.map_append]; rfl
theorem pfR_take (x:La) (k:Nat) (h:k < x.pre.length):headR x :: (x.adj.map adR ++ (x.pre.take (k + 1)).map pfR) = (headR x :: (x.adj.map adR ++ (x.pre.take k).map pfR)) ++ [pfR x.pre[k]]:=by
 rw [List.take_succ_eq_append_getElem h,List.map_append,List.cons_append,List.append_assoc]; rfl
end Go.Proofs.YtehimhbgakpenaaGreat
