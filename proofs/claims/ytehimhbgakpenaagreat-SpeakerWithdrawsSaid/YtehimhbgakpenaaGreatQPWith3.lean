/-
  The texts CodN, FlePlain, one after the other.
-/
import Derived.Test.YtehimhbgakpenaaGreatQPWith1
import Derived.Laws.CopyOwn
import Derived.Test.YtehimhbgakpenaaGreatQPWith2
namespace Go.Proofs.YtehimhbgakpenaaGreat
set_option linter.unusedVariables false
open Go.RowKit
def auE (m:Nat) (z:Int):Int:=if z < 1 ∨ 8 < z then 1 else if m < 256 ^ z.toNat then 0 else 2
def auR (bs:List UInt8) (m:Nat) (z:Int):List UInt8:=if auE m z = 0 then bs ++ numB m z.toNat else []
def uiE (bs:List UInt8):Int:=if 1 ≤ bs.length ∧ bs.length ≤ 8 then 0 else 4
def uiN (bs:List UInt8):Nat:=if 1 ≤ bs.length ∧ bs.length ≤ 8 then uintB bs else 0
theorem ofInt_u64 (a:Nat) (ha:a < 18446744073709551616):(BitVec.ofInt 64 (a:Int)).toNat = a:=by
 rw [BitVec.toNat_ofInt]; omega
theorem u64_or_nat (a b:Nat) (ha:a < 18446744073709551616) (hb:b < 18446744073709551616):bits .or .u64 (a:Int) (b:Int) = ((a ||| b:Nat):Int):=by
 have hx:a ||| b < 2 ^ 64:=Nat.or_lt_two_pow (by omega) (by omega)
 show IntKind.u64.wrap ((BitVec.ofInt 64 (a:Int) ||| BitVec.ofInt 64 (b:Int)).toNat:Int) = _
 rw [BitVec.toNat_or,ofInt_u64 a ha,ofInt_u64 b hb,IntKind.wrap_u64]
 omega
theorem uintB_take (bs:List UInt8) (k:Nat) (hk:k < bs.length):uintB (bs.take (k + 1)) = uintB (bs.take k) * 256 + bs[k].toNat:=by
 rw [List.take_succ_eq_append_getElem hk,uintB_snoc]
theorem or8 (a b:Nat) (ha:a < 72057594037927936) (hb:b < 256):bits .or .u64 ((a:Int) * 256) (b:Int) = ((a * 256 + b:Nat):Int):=by
 have h:=Nat.two_pow_add_eq_or_of_lt (i:=8) (b:=b) (by omega) a
 have e:(a:Int) * 256 = ((2 ^ 8 * a:Nat):Int):=by omega
 rw [e,u64_or_nat _ _ (by omega) (by omega),← h]
 omega
set_option maxHeartbeats 1600000 in
theorem uint_any (A:Option Addr) (n cap:Nat) (bs:List UInt8) (w:World) (hr:Bs w A bs) (hn:bs.length = n) (hn2:n ≤ 1000000000) :
  Calls Tryz.prog 113 #[.slice A n cap] w fun e w'=>e = .returned (.tuple #[.int .u64 (uiN bs),.int .i64 (uiE bs)]) ∧ w = w':=by
 subst hn
 by_cases h1:1 ≤ bs.length ∧ bs.length ≤ 8
 ·have e1:uiE bs = 0:=by unfold uiE; rw [if_pos h1]
  have e2:uiN bs = uintB bs:=by unfold uiN; rw [if_pos h1]
  rw [e1,e2]
  clear e1 e2
  obtain ⟨h1,h2⟩:=h1
  go_enter Tryz.func113,Tryz.ntmps113
  go_wp2_with fail
  go_loop [4,17] (fun v4 v17=>∃ k:Nat,k ≤ bs.length ∧ v17 = .int .i64 k ∧ v4 = .int .u64 (uintB (bs.take k))) (fun _ v17=>bs.length - (intOf v17).toNat)
  case atStart=>exact ⟨0,by omega,rfl,rfl⟩
  case round =>
   obtain ⟨k,hk,rfl,rfl⟩:=hrel
   by_cases hkn:k < bs.length
   ·obtain ⟨b,off,rfl,hc⟩:=rd_at hr (by rw [List.length_map]; omega)
    have c0:w.cell? ⟨b,off + k,none⟩ = some (.int .u8 (bs[k].toNat:Int)):=hc k _ (by simp [hkn,u8v])
    have ht:=Lib.hid (uintB_take bs k hkn)
    have hlt:uintB (bs.take k) < 72057594037927936:=by
     have:=uintB_lt (bs.take k)
     rw [List.length_take,Nat.min_eq_left hk] at this
     have:=Nat.pow_le_pow_right (n:=256) (by omega) (show k ≤ 7 by omega)
     omega
    have hb8:=UInt8.toNat_lt bs[k]
    generalize uintB (bs.take k) = a at ht hlt ⊢
    generalize (bs[k]).toNat = x at ht c0 hb8
    have hor:=or8 a x hlt hb8
    clear hc
    go_wp2_with fail
    go_round
    case rel=>exact ⟨k + 1,by omega,by go_num,by rw [ht.out]; simp⟩
    case measure=>simp [intOf]; omega
   ·obtain rfl:k = bs.length:=by omega
    rw [List.take_length]
    go_wp2_with fail
    go_ret2
    exact ⟨rfl,rfl⟩
 ·have e1:uiE bs = 4:=by unfold uiE; rw [if_neg h1]
  have e2:uiN bs = 0:=by unfold uiN; rw [if_neg h1]
  rw [e1,e2]
  clear e1 e2
  by_cases h0:bs.length < 1
  ·go_enter Tryz.func113,Tryz.ntmps113
   go_wp2_with fail
   go_ret2
   exact ⟨rfl,rfl⟩
  ·have h8:8 < bs.length:=by omega
   go_enter Tryz.func113,Tryz.ntmps113
   go_wp2_with fail
   go_ret2
   exact ⟨rfl,rfl⟩
theorem wpList_copy_all {P:Program} {w:World} {ops:Array Oper} {rest:List Oper} {o:Oper} {a:Act} {Q:Exit → Act → World → Prop} (hgd:o.guard = none) {t e:TypeId} {z:Value} {bytes:Nat} (hE:ElemT P t e z 1 bytes) (d s:Operand)
  (ho:o.op = .call { callee:=.builtin .copy,args:=#[d,s],argTypes:=#[t,t] }) (base:Nat) {v:Value} {n:Nat} {xs:List Value} (hd:a.eval d = v) (hown:w.ownsRow base e 1 v n xs)
  {A:Option Addr} {c:Nat} {src:List Value} (hs:a.eval s = .slice A n c) (hr:Rd w A src) (hl:src.length = n) (h1:∀ u ∈ src,u.oneCell' = true) (hbase:base ≤ w.heap.size)
  (h:∀ w',w'.ownsRow base e 1 v n src → Below base w w' → wpList P ops Q rest (a.put o.dst (goInt n)) w'):wpList P ops Q (o :: rest) a w:=by
 obtain ⟨i,hi,hz0,hz1,hz2⟩:=info_parts hE.info
 have hsz:(P.info? e).map (·.size) = some 1:=by rw [hi,Option.map_some,hz1]
 rcases hown.2 with ⟨rfl,rfl⟩ | ⟨g,cap,cur,rfl,hg,hh,hnc,hcm,hcs,htk⟩
 ·obtain rfl:src = []:=List.eq_nil_of_length_eq_zero hl
  exact wpList_copy_nothing hgd d s t t ho e hE.under hsz none A 0 0 0 c hd hs rfl (h w (World.ownsRow_nil _ _ _ _) (Below.refl _ _))
 ·refine wpList_copy_splice hgd d s t t ho e hE.under hsz _ _ n cap n c hd hs g 0 cur.toList e (by simpa using hh) src (by simp [hl]) (fun hp=>⟨rfl,?_⟩) (by simp; omega) h1 base w (Below.refl _ _) hg ?_
  ·exact hr hp
  ·intro w' hh' hb'
   rw [hl]
   refine h w' ⟨by omega,.inr ⟨g,cap,_,rfl,hg,hh'.out,hnc,hcm,?_,?_⟩⟩ hb'
   ·simp [splice]; omega
   ·simp [splice,hl]
theorem own_made2 (w:World) (z:Value) (n c:Nat) (e:TypeId) (hn:n ≤ c) (hm:c ≤ maxLen):(w.alloc (.cells (zeroRow z c) e)).ownsRow w.heap.size e 1 (.slice (some ⟨w.heap.size,0,none⟩) n c) n (List.replicate n z):=by
 refine ⟨by simp,.inr ⟨w.heap.size,c,zeroRow z c,rfl,Nat.le_refl _,heap_alloc_new w _,hn,hm,by simp [zeroRow],?_⟩⟩
 simp [zeroRow,hn,Nat.min_eq_left]
set_option maxRecDepth 100000 in
set_option maxHeartbeats 1600000 in
theorem append_any (A:Option Addr) (n cap:Nat) (bs:List UInt8) (m:Nat) (z:Int) (w:World) (hr:Bs w A bs) (hn:bs.length = n) (hn2:n ≤ 1000000) (hm:m < 18446744073709551616) :
  Calls Tryz.prog 123 #[.slice A n cap,.int .u64 m,.int .i64 z] w fun e w' =>
   ∃ v,e = .returned (.tuple #[v,.int .i64 (auE m z)]) ∧ w'.ownsRow w.heap.size 5 1 v (auR bs m z).length ((auR bs m z).map u8v) ∧ Below w.heap.size w w':=by
 by_cases h1:z < 1 ∨ 8 < z
 ·have e1:auE m z = 1:=by unfold auE; rw [if_pos h1]
  have e2:auR bs m z = []:=by unfold auR; rw [e1]; rfl
  rw [e1,e2]
  clear e1 e2
  by_cases h2:z < 1
  ·clear h1
   go_enter Tryz.func123,Tryz.ntmps123
   go_wp2_with fail
   go_ret2
   exact ⟨_,rfl,World.ownsRow_nil _ _ _ _,Below.refl _ _⟩
  ·have h3:8 < z:=by omega
   clear h1
   go_enter Tryz.func123,Tryz.ntmps123
   go_wp2_with fail
   go_ret2
   exact ⟨_,rfl,World.ownsRow_nil _ _ _ _,Below.refl _ _⟩
 obtain ⟨k,rfl⟩:∃ k:Nat,z = k:=⟨z.toNat,by omega⟩
 have hk1:1 ≤ k:=by omega
 have hk8:k ≤ 8:=by omega
 clear h1
 subst hn
 have hd:((m:Int) / 2 ^ (8 * k)) = ((m / 256 ^ k:Nat):Int):=by
  rw [Int.natCast_ediv,Int.natCast_pow,Int.pow_mul]; rfl
 by_cases hf:m < 256 ^ k
 ·have e1:auE m k = 0:=by unfold auE; rw [if_neg (by omega),Int.toNat_natCast,if_pos hf]
  have e2:auR bs m k = bs ++ numB m k:=by unfold auR; rw [e1,if_pos rfl,Int.toNat_natCast]
  rw [e1,e2]
  clear e1 e2
  have hd2:((m:Int) / 2 ^ (8 * k) != 0) = false:=by rw [hd,Nat.div_eq_of_lt hf]; rfl
  clear hd hf
  have S:=(St.start w).read hr
  have hmk:(Instr.makeSlice 89 (.int .i64 (bs.length:Int)) (.int .i64 ((bs.length:Int) + k))).run Tryz.prog w = _:=run_make1 bytesT rfl .i64 .i64 bs.length (bs.length + k) (by omega) (by omega) (by omega) w
  have hown0:=own_made2 w (.int .u8 0) bs.length (bs.length + k) 5 (by omega) (by simp only [maxLen]; omega)
  have hb0:=below_new' w (.cells (zeroRow (.int .u8 0) (bs.length + k)) 5)
  have rd1:=hr.below hb0
  go_enter Tryz.func123,Tryz.ntmps123
  by_cases h8:k < 8
  all_goals
   go_wp2_with (refine wpList_copy_all (v:=.slice (some ⟨w.heap.size,0,none⟩) bs.length (bs.length + k)) (o:=⟨some 34,_,_,_,_,_⟩) rfl bytesT (.tmp 32) (.tmp 33) rfl w.heap.size rfl hown0 rfl rd1 (by simp) (u8v_one _) hb0.size ?_; intro w1 hown1 hb1)
   replace hb1:=hb0.trans hb1
   clear hmk rd1 hown0 hd2
   go_loopw [8,9] (fun v8 v9 wr=>∃ j i:Nat,j + i = k ∧ v9 = .int .i64 ((i:Int) - 1) ∧ wr.ownsRow w.heap.size 5 1 v8 (bs.length + j) ((bs ++ (numB m k).take j).map u8v) ∧ Below w.heap.size w wr) (fun _ v9 _=>(intOf v9 + 1).toNat)
   case atStart=>exact ⟨0,k,by omega,rfl,by simpa using hown1,hb1⟩
   case round =>
    clear hown1 hb1
    obtain ⟨j,i,hji,rfl,hown,hb⟩:=hrel
    rcases i with _ | i
    ·obtain rfl:j = k:=by omega
     rw [List.take_of_length_le (by rw [numB_len]; exact Nat.le_refl _)] at hown
     go_wp2_with fail
     go_ret2
     refine ⟨_,rfl,?_,hb⟩
     rw [List.length_append,numB_len]
     exact hown
    ·have hi:((i + 1:Nat):Int) - 1 = i:=by omega
     rw [hi]
     have hdi:((m:Int) / 2 ^ (8 * i)) = ((m / 256 ^ i:Nat):Int):=by
      rw [Int.natCast_ediv,Int.natCast_pow,Int.pow_mul]; rfl
     have hki:k - 1 - j = i:=by omega
     have htk:Hid ((bs ++ (numB m k).take j).map u8v ++ [.int .u8 ((m:Int) / 2 ^ (8 * i) % 256)] = (bs ++ (numB m k).take (j + 1)).map u8v):=by
      show _ = _
      rw [numB_take m k j (by omega),hki,hdi,← IntKind.wrap_u8,u8_wrap]; simp
     have hown0:=hown.alloc (.cells #[.int .u8 ((m:Int) / 2 ^ (8 * i) % 256)] 5)
     have hb0:=below_new' wr (.cells #[.int .u8 ((m:Int) / 2 ^ (8 * i) % 256)] 5)
     have rd0:=Rd.lit wr #[.int .u8 ((m:Int) / 2 ^ (8 * i) % 256)] 5
     have hsz:=hb.size
     have hsz2:=hb0.size
     clear hdi hi hki hown
     go_wp2_with (at_builtin; refine wpList_app rfl bytesT (.tmp 41) (.tmp 47) rfl w.heap.size rfl hown0 (m:=1) rfl (by simp) rd0 (by simp [Value.oneCell']) (by simp only [maxLen]; omega) (by omega) (by omega) (bs.length + (j + 1)) ((bs ++ (numB m k).take (j + 1)).map u8v) (by omega) htk.out ?_; intro v3 w3 hown3 hbel3)
     go_roundw
     case rel=>exact ⟨j + 1,i,by omega,rfl,hown3,(hb.trans (hb0.mono hsz)).trans hbel3⟩
     case measure=>simp [intOf]
 ·have h8:k < 8:=by
   by_cases h8:k < 8
   ·exact h8
   ·obtain rfl:k = 8:=by omega
    exact absurd hm (by omega)
  have e1:auE m k = 2:=by unfold auE; rw [if_neg (by omega),Int.toNat_natCast,if_neg hf]
  have e2:auR bs m k = []:=by unfold auR; rw [e1]; rfl
  rw [e1,e2]
  clear e1 e2
  have hd2:((m:Int) / 2 ^ (8 * k) != 0) = true:=by
   rw [hd]
   have:=Nat.div_pos (Nat.le_of_not_lt hf) (Nat.pow_pos (n:=k) (show 0 < 256 by omega))
   simp only [bne_iff_ne,ne_eq]; omega
  clear hd hf
  go_enter Tryz.func123,Tryz.ntmps123
  go_wp2_with fail
  go_ret2
  exact ⟨_,rfl,World.ownsRow_nil _ _ _ _,Below.refl _ _⟩
end Go.Proofs.YtehimhbgakpenaaGreat

namespace Go.Proofs.YtehimhbgakpenaaGreat
theorem sm_set (l:List UInt8) (b:UInt8):∀ k (hk:k < l.length),sm (l.set k b) = sm l + ((b.toNat:Int) - (l[k].toNat:Int)):=by
 induction l with
 | nil=>intro k hk; simp at hk
 | cons x l ih =>
   intro k hk
   cases k with
   | zero=>simp only [List.set_cons_zero,sm,List.getElem_cons_zero]; omega
   | succ k =>
     have:=ih k (by simpa using hk)
     simp only [List.set_cons_succ,sm,List.getElem_cons_succ]; omega
theorem wt_set (l:List UInt8) (b:UInt8):∀ k (hk:k < l.length),wt (l.set k b) = wt l + ((l.length:Int) - k) * ((b.toNat:Int) - (l[k].toNat:Int)):=by
 induction l with
 | nil=>intro k hk; simp at hk
 | cons x l ih =>
   intro k hk
   cases k with
   | zero =>
     simp only [List.set_cons_zero,wt,List.getElem_cons_zero,List.length_cons]
     rw [show (((l.length + 1:Nat):Int) - ((0:Nat):Int)) = (l.length:Int) + 1 from by omega,Int.mul_sub]; omega
   | succ k =>
     have:=ih k (by simpa using hk)
     simp only [List.set_cons_succ,wt,List.getElem_cons_succ,List.length_cons,List.length_set]
     rw [show (((l.length + 1:Nat):Int) - ((k + 1:Nat):Int)) = (l.length:Int) - k from by omega]; omega
theorem chk_iff (l:List UInt8):chk l = true ↔ sm l % 255 = 0 ∧ wt l % 255 = 0:=by
 simp [chk,fl1,fl2]
theorem dvd_mul_of {a b:Int} (h:a % 255 = 0):(b * a) % 255 = 0:=by rw [Int.mul_emod,h]; simp
theorem u8_toNat_ofInt {x:Int} (h0:0 ≤ x) (h1:x < 256):((UInt8.ofNat x.toNat).toNat:Int) = x:=by
 simp only [UInt8.toNat_ofNat']
 rw [show x.toNat % 2 ^ 8 = x.toNat from Nat.mod_eq_of_lt (by omega),Int.toNat_of_nonneg h0]
theorem sealed_chk (bs:List UInt8) (k:Nat) (hk:k + 2 ≤ bs.length):chk (sealed bs k) = true:=by
 rw [chk_iff]
 have lz:(zeroed bs k).length = bs.length:=by simp [zeroed]
 have z0:(zeroed bs k)[k]'(by omega) = 0:=by simp [zeroed]
 have z1:(zeroed bs k)[k + 1]'(by omega) = 0:=by simp [zeroed]
 have bx:=sealX_bd bs k
 have by_:=sealY_bd bs k
 have e1:sm (sealed bs k) = sm (zeroed bs k) + sealX bs k + sealY bs k:=by
  unfold sealed
  rw [sm_set _ _ _ (by simp; omega),sm_set _ _ _ (by omega)]
  rw [u8_toNat_ofInt bx.1 (by omega),u8_toNat_ofInt by_.1 (by omega),z0]
  simp [z1]
 have e2:wt (sealed bs k) = wt (zeroed bs k) + ((bs.length:Int) - k) * sealX bs k + ((bs.length:Int) - (k + 1:Nat)) * sealY bs k:=by
  unfold sealed
  rw [wt_set _ _ _ (by simp; omega),wt_set _ _ _ (by omega)]
  rw [u8_toNat_ofInt bx.1 (by omega),u8_toNat_ofInt by_.1 (by omega),z0]
  simp [z1,lz]
 rw [e1,e2]
 generalize hm:(bs.length:Int) - k - 1 = m
 have hX:(sealX bs k - (m * sm (zeroed bs k) - wt (zeroed bs k))) % 255 = 0:=by
  unfold sealX fl1 fl2
  rw [hm]
  generalize sm (zeroed bs k) = S
  generalize wt (zeroed bs k) = T
  have h1:(m % 255 * (S % 255) - T % 255) % 255 = (m * S - T) % 255:=by
   rw [Int.sub_emod,← Int.mul_emod,Int.emod_emod,← Int.sub_emod]
  rw [h1]; omega
 have hY:(sealY bs k + (sm (zeroed bs k) + sealX bs k)) % 255 = 0:=by
  unfold sealY fl1; omega
 have e3:((bs.length:Int) - k) = m + 1:=by omega
 have e4:((bs.length:Int) - (k + 1:Nat)) = m:=by omega
 rw [e3,e4]
 generalize sealX bs k = X at *
 generalize sealY bs k = Y at *
 generalize sm (zeroed bs k) = S at *
 generalize wt (zeroed bs k) = T at *
 refine ⟨by omega,?_⟩
 have h:=dvd_mul_of (b:=m) hY
 have e5:m * (Y + (S + X)) = m * Y + (m * S + m * X):=by rw [Int.mul_add,Int.mul_add]
 rw [e5] at h
 have e6:(m + 1) * X = m * X + X:=by rw [Int.add_mul]; omega
 rw [e6]; omega
end Go.Proofs.YtehimhbgakpenaaGreat
