/-
  The texts Pfx, Cmp, CodP, Val, Bytes, one after the other.
-/
import Derived.Test.YtehimhbgakpenaaGreatQPWith0
import Derived.Test.YtehimhbgakpenaaGreatChecked
import Derived.IntWalk
import Derived.Deep.RegionHeld3
namespace Go.Proofs.YtehimhbgakpenaaGreat
set_option linter.unusedVariables false
open Go.RowKit
def pfxB (x:Nat) (l:Int):Bool:=decide (0 ≤ l ∧ l ≤ 32 ∧ x % 2 ^ (32 - l.toNat) = 0)
theorem mask_val:∀ k,k < 33 → IntKind.u64.wrap (4294967295 * 2 ^ k) % 4294967296 = ((4294967296 - 2 ^ k:Nat):Int):=by decide
theorem mask_any (l k:Nat) (hk:k + l = 32) (w:World):Calls Tryz.prog 190 #[.int .i64 l] w fun e w'=>e = .returned (.int .u32 ((4294967296 - 2 ^ k:Nat):Int)) ∧ w = w':=by
 have hk1:(32:Int) - (l:Int) = (k:Int):=by omega
 have hk2:k ≤ 32:=by omega
 have hk3:(0:Int) ≤ (k:Int):=by omega
 go_enter Tryz.func190,Tryz.ntmps190
 go_wp2_with fail
 go_ret
 exact ⟨ret_int (mask_val k (by omega)),rfl⟩
theorem bv_of (a n:Nat) (h:a < 2 ^ n):(BitVec.ofInt n (a:Int)).toNat = a:=by
 rw [BitVec.ofInt_natCast,BitVec.toNat_ofNat]; exact Nat.mod_eq_of_lt h
theorem andNot_mask (x k:Nat) (hx:x < 4294967296) (hk:k ≤ 32):bits .andNot .u32 (x:Int) ((4294967296 - 2 ^ k:Nat):Int) = ((x % 2 ^ k:Nat):Int):=by
 have hp:2 ^ k ≤ 2 ^ 32:=Nat.pow_le_pow_right (by omega) hk
 have hp0:0 < 2 ^ k:=Nat.pow_pos (by omega)
 have hlt:x % 2 ^ k < 4294967296:=Nat.lt_of_le_of_lt (Nat.mod_le _ _) hx
 show IntKind.u32.wrap ((BitVec.ofInt 32 (x:Int) &&& ~~~ BitVec.ofInt 32 ((4294967296 - 2 ^ k:Nat):Int)).toNat:Int) = _
 have e:(BitVec.ofInt 32 (x:Int) &&& ~~~ BitVec.ofInt 32 ((4294967296 - 2 ^ k:Nat):Int)).toNat = x % 2 ^ k:=by
  rw [BitVec.toNat_and,BitVec.toNat_not,bv_of x 32 (by omega),bv_of _ 32 (by omega),show 2 ^ 32 - 1 - (4294967296 - 2 ^ k) = 2 ^ k - 1 by omega,Nat.and_two_pow_sub_one_eq_mod]
 rw [e,IntKind.wrap_u32]
 omega
set_option maxHeartbeats 1600000 in
theorem pvalid_any (x:Nat) (l:Int) (hx:x < 4294967296) (w:World):Calls Tryz.prog 171 #[.agg #[.int .u32 x,.int .i64 l]] w fun e w'=>e = .returned (.bool (pfxB x l)) ∧ Below w.heap.size w w':=by
 have hbb:=below_new' w (.cells #[.int .u32 x,.int .i64 l] 181)
 have hbx:=Box.new w #[.int .u32 x,.int .i64 l] 181
 have c0:=hbx.c 0 rfl
 have c1:=hbx.c 1 rfl
 clear hbx
 by_cases h1:l < 0
 ·have e:pfxB x l = false:=by unfold pfxB; simp; omega
  rw [e]
  clear e
  have hd:decide (0 ≤ l) = false:=by simpa using h1
  go_enter Tryz.func171,Tryz.ntmps171
  go_wp2_with fail
  go_quiet (fail)
  go_wp2_with fail
  go_ret
  exact ⟨rfl,below_drewN hbb nq⟩
 by_cases h2:32 < l
 ·have e:pfxB x l = false:=by unfold pfxB; simp; omega
  rw [e]
  clear e
  have hd:decide (0 ≤ l) = true:=by simpa using h1
  have hd2:decide (l ≤ 32) = false:=by simpa using h2
  go_enter Tryz.func171,Tryz.ntmps171
  go_wp2_with fail
  go_quiet (fail)
  go_wp2_with fail
  go_ret
  exact ⟨rfl,below_drewN hbb nq⟩
 obtain ⟨l,rfl⟩:∃ j:Nat,l = j:=⟨l.toNat,by omega⟩
 obtain ⟨k,hk⟩:∃ k,k + l = 32:=⟨32 - l,by omega⟩
 have e:pfxB x l = (((x % 2 ^ k:Nat):Int) == 0):=by
  unfold pfxB
  rw [Int.toNat_natCast,show 32 - l = k by omega,Bool.eq_iff_iff,decide_eq_true_iff,beq_iff_eq]
  omega
 rw [e]
 clear e
 have ha:=andNot_mask x k hx (by omega)
 have h0:(0:Int) ≤ (l:Int):=by omega
 have h32:(l:Int) ≤ 32:=by omega
 have M:=fun W=>mask_any l k hk W
 replace M:=Lib.hid M
 clear h1 h2 hk
 generalize (4294967296 - 2 ^ k) = mm at M ha
 generalize (x % 2 ^ k) = q at ha ⊢
 go_enter Tryz.func171,Tryz.ntmps171
 go_wp2_with fail
 go_quiet ((go_at_call 190; exact quietL (M.out _)))
 go_wp2_with fail
 go_ret
 exact ⟨rfl,below_drewN hbb nq⟩
end Go.Proofs.YtehimhbgakpenaaGreat

namespace Go.Proofs.YtehimhbgakpenaaGreat
set_option linter.unusedVariables false
open Go.RowKit
def cmpI (a b:Int):Int:=if a < b then -1 else if b < a then 1 else 0
set_option maxHeartbeats 800000 in
theorem cmpint_any (a b:Int) (w:World):Calls Tryz.prog 179 #[.int .i64 a,.int .i64 b] w fun e w'=>e = .returned (.int .i64 (cmpI a b)) ∧ w = w':=by
 by_cases h1:a < b
 ·have e:cmpI a b = -1:=by unfold cmpI; rw [if_pos h1]
  rw [e]; clear e
  go_enter Tryz.func179,Tryz.ntmps179
  go_wp2
  go_ret
  exact ⟨rfl,rfl⟩
 ·by_cases h2:b < a
  ·have e:cmpI a b = 1:=by unfold cmpI; rw [if_neg h1,if_pos h2]
   rw [e]; clear e
   go_enter Tryz.func179,Tryz.ntmps179
   go_wp2
   go_ret
   exact ⟨rfl,rfl⟩
  ·have e:cmpI a b = 0:=by unfold cmpI; rw [if_neg h1,if_neg h2]
   rw [e]; clear e
   go_enter Tryz.func179,Tryz.ntmps179
   go_wp2
   go_ret
   exact ⟨rfl,rfl⟩
set_option maxHeartbeats 800000 in
theorem cmpu32_any (a b:Int) (w:World):Calls Tryz.prog 192 #[.int .u32 a,.int .u32 b] w fun e w'=>e = .returned (.int .i64 (cmpI a b)) ∧ w = w':=by
 by_cases h1:a < b
 ·have e:cmpI a b = -1:=by unfold cmpI; rw [if_pos h1]
  rw [e]; clear e
  go_enter Tryz.func192,Tryz.ntmps192
  go_wp2
  go_ret
  exact ⟨rfl,rfl⟩
 ·by_cases h2:b < a
  ·have e:cmpI a b = 1:=by unfold cmpI; rw [if_neg h1,if_pos h2]
   rw [e]; clear e
   go_enter Tryz.func192,Tryz.ntmps192
   go_wp2
   go_ret
   exact ⟨rfl,rfl⟩
  ·have e:cmpI a b = 0:=by unfold cmpI; rw [if_neg h1,if_neg h2]
   rw [e]; clear e
   go_enter Tryz.func192,Tryz.ntmps192
   go_wp2
   go_ret
   exact ⟨rfl,rfl⟩
def orI (a b:Int):Int:=if a = 0 then b else a
set_option maxHeartbeats 1600000 in
theorem or2_any (g c:Nat) (a b:Int) (w:World) (h0:w.cell? ⟨g,0,none⟩ = some (.int .i64 a)) (h1:w.cell? ⟨g,1,none⟩ = some (.int .i64 b)) :
  Calls Tryz.prog 191 #[.slice (some ⟨g,0,none⟩) 2 c] w fun e w'=>e = .returned (.int .i64 (orI a b)) ∧ w = w':=by
 go_enter Tryz.func191,Tryz.ntmps191
 go_wp2_with fail
 go_loop [8] (fun v8=>v8 = .int .i64 0 ∨ v8 = .int .i64 1 ∧ a = 0 ∨ v8 = .int .i64 2 ∧ a = 0 ∧ b = 0) (fun v8=>2 - (intOf v8).toNat)
 case atStart=>exact Or.inl rfl
 case round =>
  obtain rfl | ⟨rfl,ha⟩ | ⟨rfl,ha,hb⟩:=hrel
  ·by_cases ha:a = 0
   ·subst ha
    go_wp2_with fail
    go_round
    case rel=>exact Or.inr (Or.inl (by simp))
    case measure=>decide
   ·go_wp2_with fail
    go_ret
    exact ⟨by simp [orI,ha],rfl⟩
  ·subst ha
   by_cases hb:b = 0
   ·subst hb
    go_wp2_with fail
    go_round
    case rel=>exact Or.inr (Or.inr (by simp))
    case measure=>decide
   ·go_wp2_with fail
    go_ret
    exact ⟨by simp [orI],rfl⟩
  ·subst ha hb
   go_wp2_with fail
   go_ret
   exact ⟨by simp [orI],rfl⟩
def cmpP (x:Int) (l:Int) (y:Int) (m:Int):Int:=orI (cmpI x y) (cmpI l m)
set_option maxHeartbeats 3200000 in
theorem pcompare_any (x l y m:Int) (w:World):Calls Tryz.prog 172 #[.agg #[.int .u32 x,.int .i64 l],.agg #[.int .u32 y,.int .i64 m]] w fun e w'=>e = .returned (.int .i64 (cmpP x l y m)) ∧ Below w.heap.size w w':=by
 have hbb:=(below_new' w (.cells #[.int .u32 x,.int .i64 l] 181)).alloc (by simp) (.cells #[.int .u32 y,.int .i64 m] 181)
 have S:=(Box.new w #[.int .u32 x,.int .i64 l] 181).alloc (.cells #[.int .u32 y,.int .i64 m] 181)
 have T:=Box.new (w.alloc (.cells #[.int .u32 x,.int .i64 l] 181)) #[.int .u32 y,.int .i64 m] 181
 have c0:=S.c 0 rfl
 have c1:=S.c 1 rfl
 have d0:=T.c 0 rfl
 have d1:=T.c 1 rfl
 simp only [World.size_alloc] at d0 d1
 clear S T
 go_enter Tryz.func172,Tryz.ntmps172
 go_wp2_with fail
 generalize (w.alloc (.cells #[.int .u32 x,.int .i64 l] 181)).alloc (.cells #[.int .u32 y,.int .i64 m] 181) = w1 at *
 have tok1:True:=trivial
 have tok2:True:=trivial
 go_region_held3 (fun w'=>w'.cell? ⟨w.heap.size,0,none⟩ = some (.int .u32 x) ∧ w'.cell? ⟨w.heap.size,1,none⟩ = some (.int .i64 l) ∧ w'.cell? ⟨w.heap.size + 1,0,none⟩ = some (.int .u32 y) ∧ w'.cell? ⟨w.heap.size + 1,1,none⟩ = some (.int .i64 m)) (go_keep)
  (first
   | (clear tok1; go_at_call 192; refine (cmpu32_any _ _ _).mono ?_; rintro e w' ⟨rfl,rfl⟩)
   | (clear tok2; go_at_call 179; refine (cmpint_any _ _ _).mono ?_; rintro e w' ⟨rfl,rfl⟩)
   | (go_at_call 191; have BB:=Box.new w1.drew #[.int .i64 (cmpI x y),.int .i64 (cmpI l m)] 3; refine (or2_any w1.drew.heap.size 2 (cmpI x y) (cmpI l m) _ (BB.c 0 rfl) (BB.c 1 rfl)).mono ?_; rintro e w' ⟨rfl,rfl⟩))
 go_wp2_with fail
 go_ret
 exact ⟨rfl,(hbb.alloc hbb.size _).drew⟩
end Go.Proofs.YtehimhbgakpenaaGreat

namespace Go.Proofs.YtehimhbgakpenaaGreat
set_option linter.unusedVariables false
open Go.RowKit
def numB (n:Nat):Nat → List UInt8
 | 0=>[]
 | k + 1=>UInt8.ofNat (n / 256 ^ k) :: numB n k
theorem numB_len (n k:Nat):(numB n k).length = k:=by
 induction k with
 | zero=>rfl
 | succ k ih=>rw [numB,List.length_cons,ih]
theorem numB_get (n k:Nat):∀ j (h:j < (numB n k).length),(numB n k)[j] = UInt8.ofNat (n / 256 ^ (k - 1 - j)):=by
 induction k with
 | zero=>intro j h; simp [numB] at h
 | succ k ih =>
   intro j h
   cases j with
   | zero=>simp [numB]
   | succ j=>simp only [numB,List.getElem_cons_succ]; rw [ih]; congr 3; omega
theorem numB_take (n k j:Nat) (h:j < k):(numB n k).take (j + 1) = (numB n k).take j ++ [UInt8.ofNat (n / 256 ^ (k - 1 - j))]:=by
 rw [List.take_succ_eq_append_getElem (by rw [numB_len]; exact h),numB_get]
def uintB (bs:List UInt8):Nat:=bs.foldl (fun a b=>a * 256 + b.toNat) 0
theorem uintB_snoc (bs:List UInt8) (b:UInt8):uintB (bs ++ [b]) = uintB bs * 256 + b.toNat:=by simp [uintB]
theorem uintB_lt (bs:List UInt8):uintB bs < 256 ^ bs.length:=by
 have h:∀ k,k ≤ bs.length → uintB (bs.take k) < 256 ^ k:=by
  intro k
  induction k with
  | zero=>intro _; simp [uintB]
  | succ k ih =>
    intro hk
    have:=ih (by omega)
    rw [List.take_succ_eq_append_getElem (by omega),uintB_snoc,Nat.pow_succ]
    have hb:=UInt8.toNat_lt bs[k]
    omega
 have:=h bs.length (Nat.le_refl _)
 rwa [List.take_length] at this
theorem foldl_numB (n k a:Nat):(numB n k).foldl (fun a b=>a * 256 + b.toNat) a = a * 256 ^ k + n % 256 ^ k:=by
 induction k generalizing a with
 | zero=>simp [numB,Nat.mod_one]
 | succ k ih =>
   rw [numB,List.foldl_cons,ih,UInt8.toNat_ofNat',show (2:Nat) ^ 8 = 256 from rfl,Nat.pow_succ,Nat.mod_mul,Nat.add_mul]
   rw [show n / 256 ^ k % 256 * 256 ^ k = 256 ^ k * (n / 256 ^ k % 256) from Nat.mul_comm _ _,Nat.mul_assoc,Nat.mul_comm 256 (256 ^ k)]
   omega
theorem uint_num (n k:Nat) (h:n < 256 ^ k):uintB (numB n k) = n:=by
 unfold uintB
 rw [foldl_numB,Nat.mod_eq_of_lt h]; omega
theorem u8_wrap (n:Nat):(.int .u8 (IntKind.wrap .u8 (n:Int)):Value) = u8v (UInt8.ofNat n):=by
 unfold u8v
 rw [IntKind.wrap_u8]
 simp
theorem rd_at {w:World} {A:Option Addr} {xs:List Value} (h:Rd w A xs) (hn:0 < xs.length):∃ b off,A = some ⟨b,off,none⟩ ∧ ∀ (j:Nat) (u:Value),xs[j]? = some u → w.cell? ⟨b,off + j,none⟩ = some u:=by
 obtain ⟨ad,e,hc⟩:=h hn
 obtain ⟨b,off,spot⟩:=ad
 have h0:=hc 0 _ (List.getElem?_eq_getElem hn)
 have hs:spot = none:=by simpa [Addr.add] using World.cell?_spot h0
 subst hs
 refine ⟨b,off,e,fun j u hu=>?_⟩
 have:=hc j u hu
 have hadd:(⟨b,off,none⟩:Addr).add j = ⟨b,off + j,none⟩:=by unfold Addr.add; split <;> simp_all
 rwa [hadd] at this
def subA (A:Option Addr) (lo c:Nat):Option Addr:=if c = lo then A else A.map (·.add lo)
theorem Rd.sub {w:World} {A:Option Addr} {xs:List Value} (h:Rd w A xs) (lo c:Nat) (hc:xs.length ≤ c):Rd w (subA A lo c) (xs.drop lo):=by
 unfold subA
 split
 ·rw [List.drop_eq_nil_of_le (by omega)]; exact Rd.nil _ _
 ·exact h.drop lo
theorem run_sub {P:Program} {t e:TypeId} {z:Value} {bytes:Nat} (hE:ElemT P t e z 1 bytes) (A:Option Addr) (n c lo hi:Nat) (h1:lo ≤ hi) (h2:hi ≤ c) (W:World) :
  (Instr.slice t (.slice A n c) (some (.int .i64 (lo:Int))) (some (.int .i64 (hi:Int))) none).run P W = .ok (.slice (subA A lo c) (hi - lo) (c - lo)) W:=by
 obtain ⟨i,hi',hz0,hz1,hz2⟩:=info_parts hE.info
 have hel:P.elem t = e:=by simp [Program.elem,hE.under]
 rw [run_slice_lh W t A n c (by rw [hel]; exact hE.under) .i64 .i64 lo hi (by omega) (by omega) (by omega),hel]
 simp [sizeOf,typeInfo,hi',hz1,sliced,subA,Result.andThen]
theorem run_from {P:Program} {t e:TypeId} {z:Value} {bytes:Nat} (hE:ElemT P t e z 1 bytes) (A:Option Addr) (n c lo:Nat) (h1:lo ≤ n) (W:World) :
  (Instr.slice t (.slice A n c) (some (.int .i64 (lo:Int))) none none).run P W = .ok (.slice (subA A lo c) (n - lo) (c - lo)) W:=by
 obtain ⟨i,hi',hz0,hz1,hz2⟩:=info_parts hE.info
 have hel:P.elem t = e:=by simp [Program.elem,hE.under]
 rw [run_slice_l W t A n c (by rw [hel]; exact hE.under) .i64 lo (by omega) (by omega),hel]
 simp [sizeOf,typeInfo,hi',hz1,sliced,subA,Result.andThen]
structure Rc where
 t:Int
 A:Option Addr
 n:Nat
 c:Nat
 bs:List UInt8
def recV:List Rc → List Value
 | []=>[]
 | r :: l=>.int .i64 r.t :: .slice r.A r.n r.c :: recV l
theorem recV_len (l:List Rc):(recV l).length = l.length * 2:=by
 induction l with
 | nil=>rfl
 | cons r l ih=>simp only [recV,List.length_cons,ih]; omega
theorem recV_append (a b:List Rc):recV (a ++ b) = recV a ++ recV b:=by
 induction a with
 | nil=>rfl
 | cons r a ih=>simp only [List.cons_append,recV,ih]
theorem recV_get (l:List Rc):∀ (k:Nat) (hk:k < l.length),(recV l)[2 * k]? = some (.int .i64 l[k].t) ∧ (recV l)[2 * k + 1]? = some (.slice l[k].A l[k].n l[k].c):=by
 induction l with
 | nil=>intro k hk; simp at hk
 | cons r l ih =>
   intro k hk
   cases k with
   | zero=>exact ⟨rfl,rfl⟩
   | succ k =>
     obtain ⟨h1,h2⟩:=ih k (by simpa using hk)
     rw [show 2 * (k + 1) = 2 * k + 1 + 1 by omega]
     exact ⟨by simpa [recV] using h1,by simpa [recV] using h2⟩
theorem rd_recs {w:World} {A:Option Addr} {l:List Rc} (h:Rd w A (recV l)) {k:Nat} (hk:k < l.length) :
  ∃ b off,A = some ⟨b,off,none⟩ ∧ w.cell? ⟨b,off + k * 2,none⟩ = some (.int .i64 l[k].t) ∧ w.cell? ⟨b,off + k * 2 + 1,none⟩ = some (.slice l[k].A l[k].n l[k].c):=by
 obtain ⟨b,off,e,hc⟩:=rd_at h (by rw [recV_len]; omega)
 obtain ⟨h1,h2⟩:=recV_get l k hk
 exact ⟨b,off,e,hc _ _ (by rw [Nat.mul_comm]; exact h1),by rw [Nat.add_assoc]; exact hc _ _ (by rw [Nat.mul_comm]; exact h2)⟩
structure RcOk (w:World) (r:Rc):Prop where
 rd:Bs w r.A r.bs
 len:r.bs.length = r.n
 nc:r.n ≤ r.c
 cm:r.c ≤ 9223372036854775807
theorem RcOk.below {w w':World} {r:Rc} (h:RcOk w r) (hb:Below w.heap.size w w'):RcOk w' r:=⟨h.rd.below hb,h.len,h.nc,h.cm⟩
def RcOwn (w:World) (base:Nat) (e:TypeId) (r:Rc):Prop:=w.ownsRow base e 1 (.slice r.A r.n r.c) r.n (r.bs.map u8v)
theorem RcOwn.ok {w:World} {base:Nat} {e:TypeId} {r:Rc} (h:RcOwn w base e r):RcOk w r:=by
 obtain ⟨A,c,hv,rd,h1,h2⟩:=own_rd h
 have hl:=h.1
 rw [List.length_map,Nat.mul_one] at hl
 simp only [Value.slice.injEq,true_and] at hv
 obtain ⟨rfl,rfl⟩:=hv
 exact ⟨rd,hl,h1,h2⟩
theorem RcOwn.below {w w':World} {base:Nat} {e:TypeId} {r:Rc} (h:RcOwn w base e r) (hb:Below w.heap.size w w'):RcOwn w' base e r:=own_below h hb
theorem RcOwn.mono {w:World} {base base':Nat} {e:TypeId} {r:Rc} (h:RcOwn w base e r) (hb:base' ≤ base):RcOwn w base' e r:=own_mono h hb
theorem RcOwn.grown {w w':World} {base:Nat} {e:TypeId} {r:Rc} (h:RcOwn w base e r) {b2:Nat} {e2:TypeId} {s2:Nat} {v2:Value} {n2:Nat} {x2:List Value} (h2:w.ownsRow b2 e2 s2 v2 n2 x2) (hne:e ≠ e2) (hg:w.grownBy w' v2.ownBlock):RcOwn w' base e r :=
 World.ownsRow.kept h hg (own_ne h h2 hne)
theorem RcOwn.set {w:World} {base:Nat} {e:TypeId} {r:Rc} (h:RcOwn w base e r) {a:Addr} (ha:a.block < base) (u:Value):RcOwn (w.setCell a u) base e r:=ownsRow_setCell_below h ha u
abbrev Rec:=Int × List UInt8
def dat (r:Rc):Rec:=(r.t,r.bs)
def encE:List Rec → Int
 | []=>0
 | r :: l=>if r.1 < 1 ∨ 255 < r.1 then 1 else if 65535 < r.2.length then 6 else encE l
def enc1 (r:Rec):List UInt8:=[UInt8.ofNat r.1.toNat,UInt8.ofNat (r.2.length / 256),UInt8.ofNat r.2.length] ++ r.2
def encAll:List Rec → List UInt8
 | []=>[]
 | r :: l=>enc1 r ++ encAll l
def encR (l:List Rec):List UInt8:=if encE l = 0 then encAll l else []
theorem encAll_append (a b:List Rec):encAll (a ++ b) = encAll a ++ encAll b:=by
 induction a with
 | nil=>rfl
 | cons r a ih=>simp only [List.cons_append,encAll,ih,List.append_assoc]
theorem enc1_len (r:Rec):(enc1 r).length = 3 + r.2.length:=by simp [enc1]; omega
theorem encE_append (a b:List Rec) (h:encE a = 0):encE (a ++ b) = encE b:=by
 induction a with
 | nil=>rfl
 | cons r a ih =>
   rw [List.cons_append,encE]
   rw [encE] at h
   split at h
   ·omega
   ·split at h
    ·omega
    ·rw [if_neg ‹_›,if_neg ‹_›]; exact ih h
theorem encE_mem (l:List Rec) (h:encE l = 0):∀ r ∈ l,1 ≤ r.1 ∧ r.1 ≤ 255 ∧ r.2.length ≤ 65535:=by
 induction l with
 | nil=>simp
 | cons r l ih =>
   rw [encE] at h
   split at h
   ·omega
   ·split at h
    ·omega
    ·intro x hx
     rcases List.mem_cons.1 hx with rfl | hx
     ·omega
     ·exact ih h x hx
theorem encE_drop (l:List Rc) (k:Nat) (hk:k < l.length):encE ((l.drop k).map dat) =
  if l[k].t < 1 ∨ 255 < l[k].t then 1 else if 65535 < l[k].bs.length then 6 else encE ((l.drop (k + 1)).map dat):=by
 rw [List.drop_eq_getElem_cons hk]; rfl
theorem encAll_take (l:List Rc) (k:Nat) (hk:k < l.length):encAll ((l.take (k + 1)).map dat) = encAll ((l.take k).map dat) ++ enc1 (dat l[k]):=by
 rw [List.take_succ_eq_append_getElem hk,List.map_append,encAll_append]
 simp [encAll]
def hdN (bs:List UInt8):Nat:=(bs.getD 1 0).toNat * 256 + (bs.getD 2 0).toNat
def hdBad (bs:List UInt8):Bool:=bs.getD 0 0 == 0 || decide (bs.length < 3) || decide (bs.length < 3 + hdN bs)
def hdRec (bs:List UInt8):Rec:=(((bs.getD 0 0).toNat:Int),(bs.drop 3).take (hdN bs))
def decO (bs:List UInt8):Option (List Rec) :=
 if h:bs = [] then some []
 else if hdBad bs = true then none
 else (decO (bs.drop (3 + hdN bs))).map (hdRec bs :: ·)
termination_by bs.length
decreasing_by
 have:=List.length_pos_iff.2 h
 rw [List.length_drop]; omega
theorem decO_nil:decO [] = some []:=by rw [decO]; rfl
theorem decO_bad (bs:List UInt8) (h:bs ≠ []) (hb:hdBad bs = true):decO bs = none:=by rw [decO,dif_neg h,if_pos hb]
theorem decO_step (bs:List UInt8) (h:bs ≠ []) (hb:hdBad bs = false):decO bs = (decO (bs.drop (3 + hdN bs))).map (hdRec bs :: ·):=by rw [decO,dif_neg h,if_neg (by rw [hb]; simp)]
def decE (bs:List UInt8):Int:=if (decO bs).isSome then 0 else 4
def decL (bs:List UInt8):List Rec:=(decO bs).getD []
theorem enc1_hd (bs:List UInt8) (h3:3 ≤ bs.length) (hN:3 + hdN bs ≤ bs.length):enc1 (hdRec bs) ++ bs.drop (3 + hdN bs) = bs:=by
 obtain ⟨a,b,c,r,rfl⟩:∃ a b c r,bs = a :: b :: c :: r:=by
  rcases bs with _ | ⟨a,_ | ⟨b,_ | ⟨c,r⟩⟩⟩
  ·simp at h3
  ·simp at h3
  ·simp at h3
  ·exact ⟨a,b,c,r,rfl⟩
 have hh:hdN (a :: b :: c :: r) = b.toNat * 256 + c.toNat:=rfl
 rw [hh] at hN ⊢
 have hc:=UInt8.toNat_lt c
 have hbb:UInt8.ofNat ((b.toNat * 256 + c.toNat) / 256) = b:=by
  rw [show (b.toNat * 256 + c.toNat) / 256 = b.toNat by omega]; simp
 have hcc:UInt8.ofNat (b.toNat * 256 + c.toNat) = c:=by
  apply UInt8.toNat_inj.1
  rw [UInt8.toNat_ofNat']
  omega
 have ha:UInt8.ofNat a.toNat = a:=by simp
 have hr:hdRec (a :: b :: c :: r) = ((a.toNat:Int),r.take (b.toNat * 256 + c.toNat)):=rfl
 rw [hr]
 generalize hM:b.toNat * 256 + c.toNat = M at hN hbb hcc ⊢
 have hlen:(r.take M).length = M:=by rw [List.length_take]; simp at hN; omega
 unfold enc1
 simp only [hlen,Int.toNat_natCast]
 rw [ha,hbb,hcc,Nat.add_comm 3 M]
 simp
theorem decO_all (k:Nat):∀ bs:List UInt8,bs.length ≤ k → ∀ l,decO bs = some l → encE l = 0 ∧ encAll l = bs ∧ l.length ≤ bs.length:=by
 induction k with
 | zero =>
   intro bs hk l h
   obtain rfl:=List.eq_nil_of_length_eq_zero (Nat.le_zero.1 hk)
   rw [decO_nil] at h
   injection h with h
   subst h
   exact ⟨rfl,rfl,by simp⟩
 | succ k ih =>
   intro bs hk l h
   by_cases hne:bs = []
   ·subst hne
    rw [decO_nil] at h
    injection h with h
    subst h
    exact ⟨rfl,rfl,by simp⟩
   by_cases hb:hdBad bs = true
   ·rw [decO_bad bs hne hb] at h; cases h
   have hb':hdBad bs = false:=by simpa using hb
   rw [decO_step bs hne hb'] at h
   obtain ⟨l',hl',rfl⟩:=Option.map_eq_some_iff.1 h
   have hd:=hb'
   unfold hdBad at hd
   simp only [Bool.or_eq_false_iff,decide_eq_false_iff_not,Nat.not_lt,beq_eq_false_iff_ne] at hd
   obtain ⟨⟨h0,h3⟩,hN⟩:=hd
   obtain ⟨e1,e2,e3⟩:=ih (bs.drop (3 + hdN bs)) (by rw [List.length_drop]; omega) l' hl'
   rw [List.length_drop] at e3
   have l1:=UInt8.toNat_lt (bs.getD 1 0)
   have l2:=UInt8.toNat_lt (bs.getD 2 0)
   have l0:=UInt8.toNat_lt (bs.getD 0 0)
   have hz:(bs.getD 0 0).toNat ≠ 0:=fun e=>h0 (UInt8.toNat_inj.1 e)
   have hlen:((bs.drop 3).take (hdN bs)).length = hdN bs:=by rw [List.length_take,List.length_drop]; omega
   have hN2:hdN bs ≤ 65535:=by unfold hdN; omega
   refine ⟨?_,?_,by rw [List.length_cons]; omega⟩
   ·rw [encE]
    rw [if_neg (by unfold hdRec; simp only; omega),if_neg (by unfold hdRec; simp only; omega)]
    exact e1
   ·rw [encAll,e2]
    exact enc1_hd bs h3 hN
theorem enc1_head (r:Rec) (h1:1 ≤ r.1) (h2:r.1 ≤ 255) (h3:r.2.length ≤ 65535) (rest:List UInt8) :
  hdN (enc1 r ++ rest) = r.2.length ∧ (enc1 r ++ rest).getD 0 0 ≠ 0 ∧ (((enc1 r ++ rest).getD 0 0).toNat:Int) = r.1 ∧ (enc1 r ++ rest).drop 3 = r.2 ++ rest ∧ (enc1 r ++ rest).drop (3 + r.2.length) = rest:=by
 have e:enc1 r ++ rest = UInt8.ofNat r.1.toNat :: UInt8.ofNat (r.2.length / 256) :: UInt8.ofNat r.2.length :: (r.2 ++ rest):=by simp [enc1]
 have t0:(UInt8.ofNat r.1.toNat).toNat = r.1.toNat:=by rw [UInt8.toNat_ofNat']; exact Nat.mod_eq_of_lt (by omega)
 have t1:(UInt8.ofNat (r.2.length / 256)).toNat = r.2.length / 256:=by rw [UInt8.toNat_ofNat']; exact Nat.mod_eq_of_lt (by omega)
 have t2:(UInt8.ofNat r.2.length).toNat = r.2.length % 256:=by rw [UInt8.toNat_ofNat']
 rw [e]
 refine ⟨?_,?_,?_,rfl,?_⟩
 ·show (UInt8.ofNat (r.2.length / 256)).toNat * 256 + (UInt8.ofNat r.2.length).toNat = _
  rw [t1,t2]; omega
 ·intro h
  have:=congrArg UInt8.toNat h
  change (UInt8.ofNat r.1.toNat).toNat = 0 at this
  omega
 ·show ((UInt8.ofNat r.1.toNat).toNat:Int) = _
  rw [t0]; omega
 ·rw [Nat.add_comm 3]; simp
theorem decO_enc1 (r:Rec) (h1:1 ≤ r.1) (h2:r.1 ≤ 255) (h3:r.2.length ≤ 65535) (rest:List UInt8):decO (enc1 r ++ rest) = (decO rest).map (r :: ·):=by
 obtain ⟨a1,a2,a3,a4,a5⟩:=enc1_head r h1 h2 h3 rest
 have hne:enc1 r ++ rest ≠ []:=by simp [enc1]
 have hl:(enc1 r ++ rest).length = 3 + r.2.length + rest.length:=by rw [List.length_append,enc1_len]
 have hb:hdBad (enc1 r ++ rest) = false:=by
  unfold hdBad
  rw [a1,hl]
  simp only [Bool.or_eq_false_iff,decide_eq_false_iff_not,beq_eq_false_iff_ne]
  exact ⟨⟨a2,by omega⟩,by omega⟩
 rw [decO_step _ hne hb,a1,a5]
 have:hdRec (enc1 r ++ rest) = r:=by
  unfold hdRec
  rw [a1,a3,a4]
  simp
 rw [this]
theorem decO_enc (l:List Rec) (h:encE l = 0) (rest:List UInt8):decO (encAll l ++ rest) = (decO rest).map (l ++ ·):=by
 induction l with
 | nil=>simp [encAll]
 | cons r l ih =>
   have hm:=encE_mem (r :: l) h r (by simp)
   have hl:encE l = 0:=by
    rw [encE] at h
    split at h
    ·omega
    ·split at h
     ·omega
     ·exact h
   rw [encAll,List.append_assoc,decO_enc1 r hm.1 hm.2.1 hm.2.2,ih hl,Option.map_map]
   congr 1
theorem decO_full (l:List Rec) (h:encE l = 0):decO (encAll l) = some l:=by
 have:=decO_enc l h []
 rw [List.append_nil,decO_nil] at this
 simpa using this
def DecPost (T U:TypeId) (W:World) (bs:List UInt8) (e:Ending) (w':World):Prop :=
 ∃ v rs,e = .returned (.tuple #[v,.int .i64 (decE bs)]) ∧ w'.ownsRow W.heap.size T 2 v rs.length (recV rs) ∧ (∀ r ∈ rs,RcOwn w' W.heap.size U r) ∧ rs.map dat = decL bs ∧ Below W.heap.size W w'
def DecPostD (T U:TypeId) (W:World) (D:Option (List Rec)) (e:Ending) (w':World):Prop :=
 ∃ v rs,e = .returned (.tuple #[v,.int .i64 (if D.isSome then 0 else 4)]) ∧ w'.ownsRow W.heap.size T 2 v rs.length (recV rs) ∧ (∀ r ∈ rs,RcOwn w' W.heap.size U r) ∧ rs.map dat = D.getD [] ∧ Below W.heap.size W w'
end Go.Proofs.YtehimhbgakpenaaGreat

namespace Go.Proofs.YtehimhbgakpenaaGreat
set_option linter.unusedVariables false
open Go.RowKit
abbrev Ad:=Int × Int × Int
abbrev Pf:=Nat × Int
structure La where
 o:Int
 s:Int
 a:Int
 ov:Bool
 adj:List Ad
 pre:List Pf
def adV:List Ad → List Value
 | []=>[]
 | x :: l=>.int .i64 x.1 :: .int .i64 x.2.1 :: .int .i64 x.2.2 :: adV l
def pfV:List Pf → List Value
 | []=>[]
 | x :: l=>.int .u32 (x.1:Int) :: .int .i64 x.2 :: pfV l
theorem adV_len (l:List Ad):(adV l).length = l.length * 3:=by
 induction l with
 | nil=>rfl
 | cons r l ih=>simp only [adV,List.length_cons,ih]; omega
theorem pfV_len (l:List Pf):(pfV l).length = l.length * 2:=by
 induction l with
 | nil=>rfl
 | cons r l ih=>simp only [pfV,List.length_cons,ih]; omega
theorem adV_append (a b:List Ad):adV (a ++ b) = adV a ++ adV b:=by
 induction a with
 | nil=>rfl
 | cons r a ih=>simp only [List.cons_append,adV,ih]
theorem pfV_append (a b:List Pf):pfV (a ++ b) = pfV a ++ pfV b:=by
 induction a with
 | nil=>rfl
 | cons r a ih=>simp only [List.cons_append,pfV,ih]
theorem adV_one (a:List Ad):∀ u ∈ adV a,u.oneCell' = true:=by
 induction a with
 | nil=>simp [adV]
 | cons r a ih =>
   intro u hu
   simp only [adV,List.mem_cons] at hu
   rcases hu with rfl | rfl | rfl | hu
   ·rfl
   ·rfl
   ·rfl
   ·exact ih u hu
theorem pfV_one (a:List Pf):∀ u ∈ pfV a,u.oneCell' = true:=by
 induction a with
 | nil=>simp [pfV]
 | cons r a ih =>
   intro u hu
   simp only [pfV,List.mem_cons] at hu
   rcases hu with rfl | rfl | hu
   ·rfl
   ·rfl
   ·exact ih u hu
theorem adV_get (l:List Ad):∀ (k:Nat) (hk:k < l.length),(adV l)[3 * k]? = some (.int .i64 l[k].1) ∧ (adV l)[3 * k + 1]? = some (.int .i64 l[k].2.1) ∧ (adV l)[3 * k + 2]? = some (.int .i64 l[k].2.2):=by
 induction l with
 | nil=>intro k hk; simp at hk
 | cons r l ih =>
   intro k hk
   cases k with
   | zero=>exact ⟨rfl,rfl,rfl⟩
   | succ k =>
     obtain ⟨h1,h2,h3⟩:=ih k (by simpa using hk)
     rw [show 3 * (k + 1) = 3 * k + 1 + 1 + 1 by omega]
     exact ⟨by simpa [adV] using h1,by simpa [adV] using h2,by simpa [adV] using h3⟩
theorem pfV_get (l:List Pf):∀ (k:Nat) (hk:k < l.length),(pfV l)[2 * k]? = some (.int .u32 (l[k].1:Int)) ∧ (pfV l)[2 * k + 1]? = some (.int .i64 l[k].2):=by
 induction l with
 | nil=>intro k hk; simp at hk
 | cons r l ih =>
   intro k hk
   cases k with
   | zero=>exact ⟨rfl,rfl⟩
   | succ k =>
     obtain ⟨h1,h2⟩:=ih k (by simpa using hk)
     rw [show 2 * (k + 1) = 2 * k + 1 + 1 by omega]
     exact ⟨by simpa [pfV] using h1,by simpa [pfV] using h2⟩
theorem rd_ad {w:World} {A:Option Addr} {l:List Ad} (h:Rd w A (adV l)) (hn:0 < l.length) :
  ∃ b off,A = some ⟨b,off,none⟩ ∧ ∀ k (hk:k < l.length),w.cell? ⟨b,off + k * 3,none⟩ = some (.int .i64 l[k].1) ∧ w.cell? ⟨b,off + k * 3 + 1,none⟩ = some (.int .i64 l[k].2.1) ∧ w.cell? ⟨b,off + k * 3 + 2,none⟩ = some (.int .i64 l[k].2.2):=by
 obtain ⟨b,off,e,hc⟩:=rd_at h (by rw [adV_len]; omega)
 refine ⟨b,off,e,fun k hk=>?_⟩
 obtain ⟨h1,h2,h3⟩:=adV_get l k hk
 exact ⟨hc _ _ (by rw [Nat.mul_comm]; exact h1),by rw [Nat.add_assoc]; exact hc _ _ (by rw [Nat.mul_comm]; exact h2),by rw [Nat.add_assoc]; exact hc _ _ (by rw [Nat.mul_comm]; exact h3)⟩
theorem rd_pf {w:World} {A:Option Addr} {l:List Pf} (h:Rd w A (pfV l)) (hn:0 < l.length) :
  ∃ b off,A = some ⟨b,off,none⟩ ∧ ∀ k (hk:k < l.length),w.cell? ⟨b,off + k * 2,none⟩ = some (.int .u32 (l[k].1:Int)) ∧ w.cell? ⟨b,off + k * 2 + 1,none⟩ = some (.int .i64 l[k].2):=by
 obtain ⟨b,off,e,hc⟩:=rd_at h (by rw [pfV_len]; omega)
 refine ⟨b,off,e,fun k hk=>?_⟩
 obtain ⟨h1,h2⟩:=pfV_get l k hk
 exact ⟨hc _ _ (by rw [Nat.mul_comm]; exact h1),by rw [Nat.add_assoc]; exact hc _ _ (by rw [Nat.mul_comm]; exact h2)⟩
def wiB (n l m:Int):Bool:=decide (l ≤ n) && decide (n ≤ m)
theorem wiB_t {n l m:Int} (h:wiB n l m = true):l ≤ n ∧ n ≤ m:=by simpa [wiB] using h
theorem wiB_f {n l m:Int} (h:wiB n l m = false):n < l ∨ m < n:=by
 rcases Int.lt_or_le n l with h1 | h1
 ·exact .inl h1
 ·rcases Int.lt_or_le m n with h2 | h2
  ·exact .inr h2
  ·rw [wiB,decide_eq_true h1,decide_eq_true h2] at h; cases h
set_option maxHeartbeats 800000 in
theorem within_any (n l m:Int) (w:World):Calls Tryz.prog 170 #[.int .i64 n,.int .i64 l,.int .i64 m] w fun e w'=>e = .returned (.bool (wiB n l m)) ∧ w = w':=by
 by_cases h1:l ≤ n
 ·have e:wiB n l m = decide (n ≤ m):=by simp [wiB,h1]
  rw [e]; clear e
  go_enter Tryz.func170,Tryz.ntmps170
  go_wp2_with fail
  all_goals (first | done | go_ret)
  all_goals exact ⟨rfl,rfl⟩
 ·have e:wiB n l m = false:=by simp [wiB,h1]
  rw [e]; clear e
  go_enter Tryz.func170,Tryz.ntmps170
  go_wp2_with fail
  all_goals (first | done | go_ret)
  all_goals exact ⟨rfl,rfl⟩
def AdGood (o:Int) (l:List Ad) (n:Nat):Prop:=∀ k x,k < n → l[k]? = some x → (0 ≤ x.2.1 ∧ x.2.1 ≤ 255) ∧ x.1 ≠ o ∧ (0 ≤ x.1 ∧ x.1 ≤ 63) ∧ (1 ≤ x.2.2 ∧ x.2.2 ≤ 65535) ∧ (∀ y,0 < k → l[k - 1]? = some y → y.2.1 < x.2.1)
def PfGood (l:List Pf) (n:Nat):Prop:=∀ k x,k < n → l[k]? = some x → pfxB x.1 x.2 = true ∧ (∀ y,0 < k → l[k - 1]? = some y → cmpP y.1 y.2 x.1 x.2 < 0)
def LaValid (x:La):Prop:=(0 ≤ x.o ∧ x.o ≤ 63) ∧ (1 ≤ x.s ∧ x.s ≤ 1073741824) ∧ (0 ≤ x.a ∧ x.a ≤ 3600) ∧ x.adj.length ≤ 256 ∧ x.pre.length ≤ 64 ∧ (x.a = 3600 → x.ov = false ∧ x.adj = [] ∧ x.pre = []) ∧ AdGood x.o x.adj x.adj.length ∧ PfGood x.pre x.pre.length
open Classical in
noncomputable def vB (x:La):Bool:=decide (LaValid x)
theorem vB_f {x:La} (h:¬ LaValid x):vB x = false:=by classical exact decide_eq_false h
theorem vB_t {x:La} (h:LaValid x):vB x = true:=by classical exact decide_eq_true h
theorem vB_iff {x:La}:vB x = true ↔ LaValid x:=by classical exact decide_eq_true_iff
theorem AdGood.snoc {o:Int} {l:List Ad} {k:Nat} (h:AdGood o l k) {x:Ad} (hx:l[k]? = some x) (h1:0 ≤ x.2.1 ∧ x.2.1 ≤ 255) (h2:x.1 ≠ o) (h3:0 ≤ x.1 ∧ x.1 ≤ 63) (h4:1 ≤ x.2.2 ∧ x.2.2 ≤ 65535) (h5:∀ y,0 < k → l[k - 1]? = some y → y.2.1 < x.2.1):AdGood o l (k + 1):=by
 intro j y hj hy
 rcases Nat.lt_or_ge j k with hlt | hge
 ·exact h j y hlt hy
 ·obtain rfl:j = k:=by omega
  rw [hx] at hy; injection hy with hy; subst hy
  exact ⟨h1,h2,h3,h4,h5⟩
theorem PfGood.snoc {l:List Pf} {k:Nat} (h:PfGood l k) {x:Pf} (hx:l[k]? = some x) (h1:pfxB x.1 x.2 = true) (h5:∀ y,0 < k → l[k - 1]? = some y → cmpP y.1 y.2 x.1 x.2 < 0):PfGood l (k + 1):=by
 intro j y hj hy
 rcases Nat.lt_or_ge j k with hlt | hge
 ·exact h j y hlt hy
 ·obtain rfl:j = k:=by omega
  rw [hx] at hy; injection hy with hy; subst hy
  exact ⟨h1,h5⟩
end Go.Proofs.YtehimhbgakpenaaGreat

namespace Go.Proofs.YtehimhbgakpenaaGreat
set_option linter.unusedVariables false
open Go.RowKit
theorem bytesT:ElemT Tryz.prog 89 5 (.int .u8 0) 1 1:=⟨Tryz.underlying89,by kernel_rfl,rfl,by omega⟩
set_option maxHeartbeats 400000 in
theorem clone_any (A:Option Addr) (n cap:Nat) (bs:List UInt8) (w:World) (hb:Bs w A bs) (hn:bs.length = n) (hl:n ≤ 140737488355328) :
  Calls Tryz.prog 187 #[.slice A n cap] w fun e w'=>∃ v,e = .returned v ∧ w'.ownsRow w.heap.size 5 1 v n (bs.map u8v) ∧ Below w.heap.size w w':=by
 subst hn
 have heq:=Lib.run_eql_slice_nil (P:=Tryz.prog) w 89 5 A bs.length cap 0 0 Tryz.underlying89
 rcases A with _ | ad
 ·have hn:=Rd.nil_len hb
  go_enter Tryz.func187,Tryz.ntmps187
  go_wp2_with fail
  go_ret
  have hn':bs = []:=by simpa using hn
  subst hn'
  exact ⟨_,rfl,by simpa using World.ownsRow_nil _ _ _ _,Below.refl _ _⟩
 ·have hown:=own_empty w 5 1
  have hba:=below_new w (.cells #[] 5)
  have hb1:=hb.below hba
  go_enter Tryz.func187,Tryz.ntmps187
  go_wp2_with (at_builtin; refine wpList_app rfl bytesT _ _ rfl w.heap.size rfl hown (A:=some ad) (m:=bs.length) rfl (by simp) hb1 (u8v_one _) (by simp only [maxLen]; omega) (by omega) hba.size bs.length (bs.map u8v) (by omega) (by simp) ?_; intro v1 w1 hown1 hbel1)
  go_ret
  exact ⟨_,rfl,hown1,hba.trans hbel1⟩
end Go.Proofs.YtehimhbgakpenaaGreat
