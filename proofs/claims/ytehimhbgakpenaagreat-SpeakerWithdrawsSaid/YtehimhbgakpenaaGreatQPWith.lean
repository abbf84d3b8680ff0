/-
  The statement SpeakerWithdraws: for every input that can be read, the law returns true and leaves its arguments as they were. No condition.
-/
import Derived.Test.YtehimhbgakpenaaGreatQPWith52
import Derived.Test.YtehimhbgakpenaaGreatQPWith53
import Derived.Test.YtehimhbgakpenaaGreatQPWith47
import Derived.Deep.DeepCutAuto
import Derived.Test.YtehimhbgakpenaaGreatQPWith7
namespace Go.Proofs.YtehimhbgakpenaaGreat
set_option linter.unusedVariables false
set_option linter.unusedSimpArgs false
open Go.RowKit Go.Maps Go.Sort
def rstL (l:List Lk) (q k:Nat):List Lk:=((List.range k).filter fun i=>decide (i ≠ q)).filterMap fun i=>l[i]?
theorem rstL_skip (l:List Lk) (q:Nat):rstL l q (q + 1) = rstL l q q:=by
 unfold rstL
 rw [List.range_succ,List.filter_append,List.filterMap_append]
 simp
theorem rstL_next {l:List Lk} {q k:Nat} (hq:k ≠ q) (hk:k < l.length):rstL l q (k + 1) = rstL l q k ++ [l[k]]:=by
 unfold rstL
 rw [List.range_succ,List.filter_append,List.filterMap_append]
 simp [hq,List.getElem?_eq_getElem hk]
theorem rstL_len (l:List Lk) (q k:Nat):(rstL l q k).length ≤ k:=by
 unfold rstL
 refine Nat.le_trans (List.length_filterMap_le _ _) (Nat.le_trans (List.length_filter_le _ _) ?_)
 simp
theorem rstL_mem {l:List Lk} {q k:Nat} {x:Lk} (h:x ∈ rstL l q k):∃ i,i < k ∧ i ≠ q ∧ l[i]? = some x:=by
 unfold rstL at h
 obtain ⟨i,hi,hx⟩:=List.mem_filterMap.1 h
 rw [List.mem_filter,List.mem_range,decide_eq_true_eq] at hi
 exact ⟨i,hi.1,hi.2,hx⟩
def deadL (a b q:Nat):Nat → Nat → Prop:=fun i l=>(dead0 i l ∨ (i = a ∧ l = q)) ∨ (i = b ∧ l = q)
section
variable {P:Par} {n:Nat}
theorem lnk_nat (hP:ParOk P) (hn:P.t.n = n) {k:Nat} {x:Lk} (hx:P.t.ln[k]? = some x):x.a.toNat < n ∧ x.b.toNat < n ∧ Lnk P.t x.a.toNat k x.b.toNat:=by
 have h:=lk_ok hP.t hx
 have ha:=h.a
 have hb:=h.b
 exact ⟨by omega,by omega,x,hx,.inl ⟨by omega,by omega⟩⟩
theorem con_rest (hP:ParOk P) (hn:P.t.n = n) {q k:Nat} {dead:Nat → Nat → Prop} (hd:∀ i l,dead i l → l = q) (hc:∀ j,j < n → Cnn (rstL P.t.ln q k) j):ConnP P n dead:=fun Q h i j hi hj hQ=>by
 have hcl:ClQ (rstL P.t.ln q k) Q:=fun x hx=>by
  obtain ⟨l,_,hlq,hxl⟩:=rstL_mem hx
  obtain ⟨h1,h2,h3⟩:=lnk_nat hP hn hxl
  have nd:∀ i,¬ dead i l:=fun i e=>hlq (hd i l e)
  exact ⟨h _ _ _ h1 h2 h3 (nd _) (nd _),h _ _ _ h2 h1 h3.symm (nd _) (nd _)⟩
 exact (hc j hj Q hcl).2 ((hc i hi Q hcl).1 hQ)
theorem con_dead0 (hP:ParOk P) (hn:P.t.n = n) {q k:Nat} (hc:∀ j,j < n → Cnn (rstL P.t.ln q k) j):ConnP P n dead0:=con_rest hP hn (fun _ _ h=>h.elim) hc
theorem con_deadL (hP:ParOk P) (hn:P.t.n = n) {a b q k:Nat} (hc:∀ j,j < n → Cnn (rstL P.t.ln q k) j):ConnP P n (deadL a b q) :=
 con_rest hP hn (q:=q) (fun i l h=>by
  rcases h with (h | h) | h
  ·exact h.elim
  ·exact h.2
  ·exact h.2) hc
theorem deadL_sym (hP:ParOk P) {a b q:Nat} {y:Lk} (hy:P.t.ln[q]? = some y) (ha:y.a = (a:Int)) (hb:y.b = (b:Int)):∀ i k j,Lnk P.t i k j → deadL a b q i k → deadL a b q j k:=fun i k j ⟨x,hx,hij⟩ h=>by
 have hk:k = q:=by
  rcases h with (h | h) | h
  ·exact h.elim
  ·exact h.2
  ·exact h.2
 subst hk
 rw [hx] at hy
 injection hy with hy
 subst hy
 rcases hij with h1 | h1
 ·exact .inr ⟨by omega,rfl⟩
 ·exact .inl (.inr ⟨by omega,rfl⟩)
theorem vwD_at {N:Db}:∀ (l:List Lk) (i:Nat) (q:Nat),(∀ k x,l[k]? = some x → dnB N (i + k) x = decide (i + k = q)) → ∀ a:Nat,a < 2 * l.length → (vwD N i l)[a]? = some (decide (i + a / 2 = q))
 | [],_,_,_,a,h=>by simp at h
 | y :: l,i,q,h,a,ha=>by
   unfold vwD
   have h0:dnB N i y = decide (i = q):=h 0 y rfl
   match a,ha with
   | 0,_=>simp [h0]
   | 1,_=>simp [h0]
   | a + 2,ha =>
     have h1:=vwD_at l (i + 1) q (fun k x e=>by rw [show i + 1 + k = i + (k + 1) by omega]; exact h (k + 1) x e) a (by simp only [List.length_cons] at ha; omega)
     simp only [List.getElem?_cons_succ]
     rw [h1,show i + 1 + a / 2 = i + (a + 2) / 2 by omega]
theorem Ivn.lost (hP:ParOk P) (hn:P.t.n = n) {T:Int} {S:Sps} {a b q:Nat} {y:Lk} (hy:P.t.ln[q]? = some y) (ha:y.a = (a:Int)) (hb:y.b = (b:Int)) (h:Ivn P n (deadL a b q) T S []) (hT:P.H + 1 ≤ T) (hc:Conv n S) {i:Nat} (hi:i < n):∀ z:Nat,z < 2 * P.t.ln.length → (vwD (S i).db 0 P.t.ln)[z]? = some (decide (z / 2 = q)):=fun z hz=>by
 have:=vwD_at P.t.ln 0 q (N:=(S i).db) (fun k x hx=>by
  rw [Nat.zero_add]
  have hv:=h.view hP hn hT hc hi hx
  by_cases e:k = q
  ·subst e
   rw [hx] at hy
   injection hy with hy
   subst hy
   rw [hv.2 (.inl (.inr ⟨by omega,rfl⟩))]
   simp
  ·have nd:∀ j,¬ deadL a b q j k:=fun j h=>by
    rcases h with (h | h) | h
    ·exact h.elim
    ·exact e h.2
    ·exact e h.2
   rw [(hv.1 (nd _) (nd _)).2]
   simp [e]) z hz
 rwa [Nat.zero_add] at this
end
end Go.Proofs.YtehimhbgakpenaaGreat

namespace Go.Proofs.YtehimhbgakpenaaGreat
set_option linter.unusedVariables false
set_option linter.unusedSimpArgs false
open Go.RowKit Go.Maps Go.Sort
theorem lk_cells8 {w:World} {pb off:Nat} {l:List Lk} (h:Rd w (some ⟨pb,off,none⟩) (lksV l)) {k:Nat} (hk:k < l.length) {x:Lk} (hx:l[k] = x):LkC w pb (off + k * 7) x:=by
 obtain ⟨b,o,e,hc⟩:=rd_lk h (by omega)
 injection e with e
 injection e with e1 e2
 subst e1 e2
 rw [← hx]
 exact hc k hk
theorem NtwAt.rows {B0 Bn:Nat} {w0 w:World} {N:Nm} {n:Nat} {t:Tp} {S:Sps} {g b1 off1 c1:Nat} {G:Nat → Nat} (h:NtwAt B0 Bn w0 w N n t S) (e1:N.g = g) (e2:N.A1 = some ⟨b1,off1,none⟩) (e3:N.c1 = c1) (e4:∀ j,(N.M j).g = G j) (hn:0 < n) :
  w.cell? ⟨g,3,none⟩ = some (.slice (some ⟨b1,off1,none⟩) n c1) ∧ ∀ i,i < n → w.cell? ⟨b1,off1 + i,none⟩ = some (.pointer (some ⟨G i,0,none⟩)):=by
 have x3:=h.bx.c 3 rfl
 rw [e1,e2,e3] at x3
 obtain ⟨b,off,e,hc⟩:=rd_at (own_slice h.rp) (by rw [ptrN_len]; exact hn)
 rw [e2] at e
 injection e with e
 injection e with a1 a2
 subst a1 a2
 exact ⟨x3,fun i hi=>by rw [← e4 i]; exact hc i _ (ptrN_get hi)⟩
theorem deadL_q {a b q i l:Nat} (h:deadL a b q i l):l = q:=by
 rcases h with (h | h) | h
 ·exact h.elim
 ·exact h.2
 ·exact h.2
theorem env_dead {P:Par} {n:Nat} {T:Int} {S:Sps} {e:Env} {way:List Env} {a b q:Nat} {y:Lk} (h:Ivn P n (deadL a b q) T S (e :: way)) (hy:P.t.ln[q]? = some y) (ha:y.a = (a:Int)) (hb:y.b = (b:Int)) (he:e.l = q):deadL a b q e.t e.l:=by
 rcases h.gw e (by simp) with h1 | ⟨_,i,_,⟨x,hx,hij⟩,_⟩
 ·exact h1
 ·rw [he,hy] at hx
  injection hx with hx
  subst hx
  rcases hij with h2 | h2
  ·exact .inr ⟨by omega,he⟩
  ·exact .inl (.inr ⟨by omega,he⟩)
set_option maxRecDepth 100000 in
set_option maxHeartbeats 12800000 in
theorem withdraws_law (w:World) (v:Value) (t:Tp) (ht:TpAt w v t) (H D R:Int) (z:Int) (hz:(Lit.int .u8 z).wf = true) :
  Calls Tryz.prog 4 #[v,.agg #[.int .i64 H,.int .i64 D,.int .i64 R],.int .u8 z] w fun e w'=>e = .returned (.bool true) ∧ Below w.heap.size w w':=by
 obtain ⟨hz0,hz1⟩:=bounds_u8 hz
 clear hz
 have ht':=ht
 obtain ⟨A,c,B,d,rfl,rA,rB,l1,l2⟩:=ht
 have S:=(((St.start w).read rB).new' #[.int .i64 t.n,.slice A t.ov.length c,.slice B t.ln.length d] 25 w.heap.size _ rfl rfl).new' #[.int .i64 H,.int .i64 D,.int .i64 R] 27 (w.heap.size + 1) _ (by simp) rfl
 have TW:Hid (∀ W,Below w.heap.size w W → TpAt W (.agg #[.int .i64 t.n,.slice A t.ov.length c,.slice B t.ln.length d]) t):=fun W hb=>ht'.below hb
 clear rA rB l1 l2 ht'
 obtain ⟨m,hm⟩:∃ m,t.ln.length = m:=⟨_,rfl⟩
 obtain ⟨ko,hko⟩:∃ ko,t.ov.length = ko:=⟨_,rfl⟩
 rw [hm,hko] at S TW ⊢
 replace hm:=Lib.hid hm
 replace hko:=Lib.hid hko
 go_enter Tryz.func4,Tryz.ntmps4
 go_upto_region 1 with fail
 generalize World.alloc (World.alloc w _) _ = w1 at *
 go_wp2_with fail
 (with_reducible refine (awake8_any _).mono ?_)
 rintro e w2 ⟨rfl,hb⟩
 replace S:=S.call hb
 clear hb
 have a0:=S.c 1 0 rfl rfl
 have a1:=S.c 1 1 rfl rfl
 have a2:=S.c 1 2 rfl rfl
 have b0:=S.c 0 0 rfl rfl
 have b1:=S.c 0 1 rfl rfl
 have b2:=S.c 0 2 rfl rfl
 have SM:=Lib.hid (small_any w2 _ t (TW.out _ S.b) H D R)
 go_wp2_with fail
 (with_reducible refine (SM.out).mono ?_)
 rintro e w3 ⟨r1,rfl,hr1,hb⟩
 replace S:=S.call hb
 clear hb SM a0 a1 a2 b0 b1 b2
 have a0:=S.c 1 0 rfl rfl
 have a1:=S.c 1 1 rfl rfl
 have a2:=S.c 1 2 rfl rfl
 have b0:=S.c 0 0 rfl rfl
 have b1:=S.c 0 1 rfl rfl
 have b2:=S.c 0 2 rfl rfl
 rcases r1 with _ | _
 ·have hb9:=S.b
  clear S
  go_wp2_with fail
  go_ret
  exact ⟨rfl,hb9⟩
 obtain ⟨hT,htm⟩:=hr1 rfl
 replace hT:=Lib.hid hT
 replace htm:=Lib.hid htm
 clear hr1
 rcases e1:decide (t.n < 2) with _ | _
 rotate_left
 ·have hb9:=S.b
  clear S
  go_wp2_with fail
  go_ret
  exact ⟨rfl,hb9⟩
 rcases e2:decide ((6:Int) < t.n) with _ | _
 rotate_left
 ·have hb9:=S.b
  clear S
  go_wp2_with fail
  go_ret
  exact ⟨rfl,hb9⟩
 rcases e3:((m:Int) == 0) with _ | _
 rotate_left
 ·have hb9:=S.b
  clear S
  go_wp2_with fail
  go_ret
  exact ⟨rfl,hb9⟩
 rcases e4:decide ((8:Int) < (m:Int)) with _ | _
 rotate_left
 ·have hb9:=S.b
  clear S
  go_wp2_with fail
  go_ret
  exact ⟨rfl,hb9⟩
 rcases e5:decide ((5:Int) < H) with _ | _
 rotate_left
 ·have hb9:=S.b
  clear S
  go_wp2_with fail
  go_ret
  exact ⟨rfl,hb9⟩
 rcases e6:decide ((10:Int) < D) with _ | _
 rotate_left
 ·have hb9:=S.b
  clear S
  go_wp2_with fail
  go_ret
  exact ⟨rfl,hb9⟩
 rcases e7:decide (D ≤ H) with _ | _
 rotate_left
 ·have hb9:=S.b
  clear S
  go_wp2_with fail
  go_ret
  exact ⟨rfl,hb9⟩
 rcases e8:decide ((5:Int) < R) with _ | _
 rotate_left
 ·have hb9:=S.b
  clear S
  go_wp2_with fail
  go_ret
  exact ⟨rfl,hb9⟩
 obtain ⟨n,hn⟩:∃ n:Nat,t.n = (n:Int):=⟨t.n.toNat,by have:=hT.out.n; omega⟩
 have hln:∀ x ∈ t.ln,∃ a b:Nat,x.a = (a:Int) ∧ x.b = (b:Int) ∧ a < n ∧ b < n:=fun x hx=>by
  have h:=hT.out.all x hx
  have ha:=h.a
  have hb:=h.b
  exact ⟨x.a.toNat,x.b.toNat,by omega,by omega,by omega,by omega⟩
 have CN:=fun W (hb:Below w3.heap.size w3 W)=>connected_any W _ t n hn (by simp at e1; omega) (by simp at e2; omega) ((TW.out _ S.b).below hb) (hT.out.ln) hln
 have CN:=Lib.hid (CN w3 (Below.refl _ _))
 replace hn:=Lib.hid hn
 replace hln:=Lib.hid hln
 go_wp2_with fail
 (with_reducible refine (CN.out).mono ?_)
 rintro e w4 ⟨r2,rfl,hr2,hb⟩
 replace S:=S.call hb
 clear hb CN a0 a1 a2 b0 b1 b2 hr2
 rcases r2 with _ | _
 ·have hb9:=S.b
  clear S
  go_wp2_with fail
  go_ret
  exact ⟨rfl,hb9⟩
 have hnum:Hid (2 ≤ n ∧ n ≤ 6 ∧ 1 ≤ m ∧ m ≤ 8 ∧ H ≤ 5 ∧ D ≤ 10 ∧ H < D ∧ R ≤ 5):=Lib.hid (by have:=hn.out; simp at e1 e2 e3 e4 e5 e6 e7 e8; omega)
 clear e1 e2 e3 e4 e5 e6 e7 e8
 obtain ⟨q,hq⟩:∃ q:Nat,z.tmod (m:Int) = (q:Int) ∧ q < m:=by
  have:=hnum.out
  have h1:=Int.emod_nonneg z (show (m:Int) ≠ 0 by omega)
  have h2:=Int.emod_lt_of_pos z (show (0:Int) < m by omega)
  refine ⟨(z % (m:Int)).toNat,?_,by omega⟩
  rw [Int.tmod_eq_emod_of_nonneg hz0]
  omega
 obtain ⟨e9,hqm⟩:=hq
 have a0:=S.c 1 0 rfl rfl
 have a2:=S.c 1 2 rfl rfl
 go_upto_region 8 with fail
 clear e9 a0 a2
 have hb45:=below_new' w4 (.cells #[.int .i64 t.n,.slice none 0 0,.slice none 0 0] 25)
 have S5:=S.new' #[.int .i64 t.n,.slice none 0 0,.slice none 0 0] 25 w4.heap.size _ rfl rfl
 have hg8:=S.lt 0 rfl (by simp)
 clear S hb45
 generalize World.alloc w4 _ = w5 at *
 generalize w4.heap.size = g8 at *
 have hm8:m ≤ 8:=hnum.out.2.2.2.1
 go_wp2_with fail
 go_loopw [9] (fun v9 wr=>∃ (k:Nat) (A8:Option Addr) (c8 n8:Nat),v9 = .int .i64 k ∧ k ≤ m ∧ n8 ≤ k ∧ Hid ((rstL t.ln q k).length = n8) ∧ St w wr [(g8,[.int .i64 t.n,.slice none 0 0,.slice A8 n8 c8]),(w.heap.size + 1,[.int .i64 H,.int .i64 D,.int .i64 R]),(w.heap.size,[.int .i64 t.n,.slice A ko c,.slice B m d])] [(B,lksV t.ln)] ∧ Hid (wr.ownsRow (g8 + 1) 79 7 (.slice A8 n8 c8) n8 (lksV (rstL t.ln q k)))) (fun v9 _=>m - (intOf v9).toNat)
 case atStart=>exact ⟨0,none,0,0,rfl,by omega,by omega,Lib.hid rfl,S5,Lib.hid (World.ownsRow_nil _ _ _ _)⟩
 case round =>
  clear S5
  obtain ⟨k,A8,c8,n8,rfl,hk,hn8,hl8,S,o8⟩:=hrel
  have a2:=S.c 2 2 rfl rfl
  by_cases hkm:k < m
  ·by_cases hkq:k = q
   ·subst hkq
    have e1:((k:Int) != (k:Int)) = false:=by simp
    have hl9:Hid ((rstL t.ln k (k + 1)).length = n8):=Lib.hid (by rw [rstL_skip]; exact hl8.out)
    have o9:Hid (wr.ownsRow (g8 + 1) 79 7 (.slice A8 n8 c8) n8 (lksV (rstL t.ln k (k + 1)))):=Lib.hid (by rw [rstL_skip]; exact o8.out)
    clear o8 hl8
    go_wp2_with fail
    go_round
    case rel=>exact ⟨k + 1,A8,c8,n8,by go_num,by omega,by omega,hl9,S,o9⟩
    case measure=>simp [intOf]; omega
   ·have e1:((k:Int) != (q:Int)) = true:=by simp; omega
    have hkl:k < t.ln.length:=by rw [hm.out]; exact hkm
    obtain ⟨pb,off,rfl,hc⟩:=rd_lk (S.r 0 rfl) (by omega)
    have hcc:=hc k hkl
    have hnx:=rstL_next (l:=t.ln) hkq hkl
    have hL:Hid (lksV (rstL t.ln q k) ++ lkL t.ln[k] = lksV (rstL t.ln q (k + 1))):=Lib.hid (by rw [hnx,lksV_append]; simp [lksV])
    have hl9:Hid ((rstL t.ln q (k + 1)).length = n8 + 1):=Lib.hid (by rw [hnx]; simp [hl8.out])
    obtain ⟨x,hx⟩:∃ x,t.ln[k] = x:=⟨_,rfl⟩
    rw [hx] at hcc hL
    clear hc hl8 hnx
    replace hx:=Lib.hid hx
    obtain ⟨x0,x1,x2,x3,x3',x4,x5,x6⟩:=hcc
    obtain ⟨xa,xb,xc,xd,xe,xf,xg⟩:=x
    simp only at x0 x1 x2 x3 x3' x4 x5 x6
    have y2:=S.c 0 2 rfl rfl
    have hgsz:g8 < wr.heap.size:=S.lt 0 rfl (by simp)
    go_upto_region 11 with fail
    refine wp_region_noPanic ?_
    refine wp_region_Z (S:=fun W=>W.cell? ⟨g8,2,none⟩ = some (.slice A8 n8 c8) ∧ W.cell? ⟨w.heap.size,2,none⟩ = some (.slice (some ⟨pb,off,none⟩) m d) ∧ W.cell? ⟨pb,off + k * 7,none⟩ = some (.int .i64 xa) ∧ W.cell? ⟨pb,off + k * 7 + 1,none⟩ = some (.int .i64 xb) ∧ W.cell? ⟨pb,off + k * 7 + 2,none⟩ = some (.int .i64 xc) ∧ W.cell? ⟨pb,off + k * 7 + 2 + 1,none⟩ = some (.int .i64 xd) ∧ W.cell? ⟨pb,off + k * 7 + 3,none⟩ = some (.int .i64 xd) ∧ W.cell? ⟨pb,off + k * 7 + 4,none⟩ = some (.int .i64 xe) ∧ W.cell? ⟨pb,off + k * 7 + 5,none⟩ = some (.int .i64 xf) ∧ W.cell? ⟨pb,off + k * 7 + 6,none⟩ = some (.int .i64 xg)) [9,10] (by kernel_rfl) ⟨y2,a2,x0,x1,x2,x3,x3',x4,x5,x6⟩ (fun hHeld=>?_)
    clear y2 a2 x0 x1 x2 x3 x3' x4 x5 x6 e1
    have SD:=S.drew
    have oD:=own_below o8.out (Below.refl _ _).drew
    have hgsz':g8 < (World.drew wr).heap.size:=hgsz
    clear S o8 hgsz
    generalize World.drew wr = wq at *
    refine takeU (i:=0) (v:=?_) (some 96) rfl rfl (by kernel_rfl) (by kernel_rfl) (by kernel_rfl) (fun _ _ _ h=>h) (Or.inl ⟨by rfl,?_⟩) ?_
    rotate_left
    ·intro w hSw; go_simp; (try with_reducible rfl)
    try simp only [Act.put,List.setIfInBounds_toArray,List.set_cons_succ,List.set_cons_zero]
    refine takeZ (i:=1) (v:=?_) (some 97) rfl rfl (by kernel_rfl) (by kernel_rfl) (by kernel_rfl) (by kernel_rfl) (fun _ _ _ h=>h) (Or.inl ⟨by rfl,?_⟩) (by assumption) ?_
    rotate_left
    ·intro w hSw; (try dsimp only at hSw); go_simp; (try with_reducible rfl)
    try simp only [Act.put,List.setIfInBounds_toArray,List.set_cons_succ,List.set_cons_zero]
    refine takeU (i:=2) (v:=?_) (some 98) rfl rfl (by kernel_rfl) (by kernel_rfl) (by kernel_rfl) (fun _ _ _ h=>h) (Or.inl ⟨by rfl,?_⟩) ?_
    rotate_left
    ·intro w hSw; go_simp; (try with_reducible rfl)
    try simp only [Act.put,List.setIfInBounds_toArray,List.set_cons_succ,List.set_cons_zero]
    refine takeZ (i:=3) (v:=?_) (some 99) rfl rfl (by kernel_rfl) (by kernel_rfl) (by kernel_rfl) (by kernel_rfl) (fun _ _ _ h=>h) (Or.inl ⟨by rfl,?_⟩) (by assumption) ?_
    rotate_left
    ·intro w hSw; (try dsimp only at hSw); go_simp; (try with_reducible rfl)
    try simp only [Act.put,List.setIfInBounds_toArray,List.set_cons_succ,List.set_cons_zero]
    refine takeU (i:=4) (v:=?_) (some 100) rfl rfl (by kernel_rfl) (by kernel_rfl) (by kernel_rfl) (fun _ _ _ h=>h) (Or.inl ⟨by rfl,?_⟩) ?_
    rotate_left
    ·intro w hSw; go_simp; (try with_reducible rfl)
    try simp only [Act.put,List.setIfInBounds_toArray,List.set_cons_succ,List.set_cons_zero]
    refine takeU (i:=5) (v:=?_) (some 101) rfl rfl (by kernel_rfl) (by kernel_rfl) (by kernel_rfl) (fun _ _ _ h=>h) (Or.inl ⟨by rfl,?_⟩) ?_
    rotate_left
    ·intro w hSw; go_simp; (try with_reducible rfl)
    try simp only [Act.put,List.setIfInBounds_toArray,List.set_cons_succ,List.set_cons_zero]
    refine takeZ (i:=6) (v:=?_) (some 102) rfl rfl (by kernel_rfl) (by kernel_rfl) (by kernel_rfl) (by kernel_rfl) (fun _ _ _ h=>h) (Or.inl ⟨by rfl,?_⟩) (by assumption) ?_
    rotate_left
    ·intro w hSw; (try dsimp only at hSw); go_simp; (try with_reducible rfl)
    try simp only [Act.put,List.setIfInBounds_toArray,List.set_cons_succ,List.set_cons_zero]
    have o7:=World.ownsRow_lit (base:=wq.heap.size) (e:=79) (size:=7) wq #[.int .i64 xa,.int .i64 xb,.int .i64 xc,.int .i64 xd,.int .i64 xe,.int .i64 xf,.int .i64 xg] 1 (Nat.le_refl _) (by unfold maxLen; omega) (by simp)
    have hb7:=below_new' wq (.cells #[.int .i64 xa,.int .i64 xb,.int .i64 xc,.int .i64 xd,.int .i64 xe,.int .i64 xf,.int .i64 xg] 79)
    have S7:=SD.call hb7
    have o8:=own_below oD hb7
    refine anyZ_ready (rs:=[7]) (by kernel_rfl) (by simp) ?_
    refine readyZ_cons rfl (fun K hK=>?_) readyZ_nil
    go_simp
    refine hK.out _ _ (fun h=>⟨S7.c 0 2 rfl rfl,S7.c 2 2 rfl rfl,cell_later hb7 hHeld.2.2.1,cell_later hb7 hHeld.2.2.2.1,cell_later hb7 hHeld.2.2.2.2.1,cell_later hb7 hHeld.2.2.2.2.2.1,cell_later hb7 hHeld.2.2.2.2.2.2.1,cell_later hb7 hHeld.2.2.2.2.2.2.2.1,cell_later hb7 hHeld.2.2.2.2.2.2.2.2.1,cell_later hb7 hHeld.2.2.2.2.2.2.2.2.2⟩) (fun hHeld0=>?_)
    replace hHeld:=hHeld0 (by decide)
    clear hK K hHeld0
    have hs7:g8 + 1 ≤ (World.alloc wq (.cells #[.int .i64 xa,.int .i64 xb,.int .i64 xc,.int .i64 xd,.int .i64 xe,.int .i64 xf,.int .i64 xg] 79)).heap.size:=by simp; omega
    generalize World.alloc wq _ = wf at *
    refine anyZ_ready (rs:=[8]) (by kernel_rfl) (by simp) ?_
    refine readyZ_cons rfl (fun K hK=>?_) readyZ_nil
    refine step_appG rfl lkT (.tmp 97) (.tmp 103) (by rfl) (g8 + 1) (by rfl) o8 (by rfl) (m:=1) (by rfl) (own_slice o7) (lkL_one ⟨xa,xb,xc,xd,xe,xf,xg⟩) (by simp only [maxLen]; omega) (by omega) hs7 (n8 + 1) _ rfl hL.out ?_
    intro v8 w8 ho8 hb8 hg9
    obtain ⟨A9,c9,rfl,-⟩:=own_rd ho8
    have S8:=S7.belowB hb8 (by omega) (by simp; omega)
    obtain ⟨x0,x1,x2,x3,x3',x4,x5,x6⟩:=lk_cells8 (S8.r 0 rfl) hkl hx.out
    refine hK.out _ _ (fun _=>⟨S8.c 0 2 rfl rfl,S8.c 2 2 rfl rfl,x0,x1,x2,x3,x3',x4,x5,x6⟩) (fun hHeld0=>?_)
    replace hHeld:=hHeld0 (by decide)
    clear hK K hHeld0 x0 x1 x2 x3 x3' x4 x5 x6 S7 o8 o7 hb7 hs7 hx hb8 hg9
    refine takeU (i:=9) (v:=?_) (some 105) rfl rfl (by kernel_rfl) (by kernel_rfl) (by kernel_rfl) (fun _ _ _ h=>h) (Or.inl ⟨by rfl,?_⟩) ?_
    rotate_left
    ·intro w hSw; go_simp; (try with_reducible rfl)
    try simp only [Act.put,List.setIfInBounds_toArray,List.set_cons_succ,List.set_cons_zero]
    have q0:=S8.f 0 2 rfl rfl
    have q1:=S8.c 0 2 rfl rfl
    refine anyZ_ready (rs:=[10]) (by kernel_rfl) (by simp) ?_
    refine readyZ_cons rfl (fun K hK=>?_) readyZ_nil
    go_simp
    refine hK.out _ _ (fun h=>absurd h (by decide)) (fun _=>?_)
    clear hK K hHeld q0 q1
    have S9:=S8.set 0 2 (.slice A9 (n8 + 1) c9) rfl (by simp) (by omega) (by simp; omega) _ rfl
    have o9:=Lib.hid (own_far ho8 (p:=⟨g8,2,none⟩) (fun k e=>by have:=(ho8.lt k e).1; simp only; omega) (.slice A9 (n8 + 1) c9))
    refine anyZ_done (by kernel_rfl) ?_ _
    refine NoPanic.normal ?_
    clear S8 ho8
    go_wp2_with fail
    go_round
    case rel=>exact ⟨k + 1,A9,c9,n8 + 1,by go_num,by omega,by omega,hl9,S9,o9⟩
    case measure=>simp [intOf]; omega
  ·obtain rfl:k = m:=by omega
   have RT:Hid (∀ W,Below wr.heap.size wr W → TpAt W (.agg #[.int .i64 t.n,.slice none 0 0,.slice A8 n8 c8]) ⟨t.n,[],rstL t.ln q k⟩):=Lib.hid (fun W hb=>⟨none,0,A8,c8,by show _ = tpV t.n none 0 0 A8 (rstL t.ln q k).length c8; rw [hl8.out],Rd.nil _ _,(own_slice o8.out).below hb,by simp [maxLen],by simp only [hl8.out,maxLen]; omega⟩)
   clear o8 a2
   have hn2:2 ≤ n ∧ n ≤ 6:=⟨hnum.out.1,hnum.out.2.1⟩
   have htb:(1 ≤ H ∧ H ≤ 5) ∧ (H < D ∧ D ≤ 10) ∧ (1 ≤ R ∧ R ≤ 5):=by
    have h1:=htm.out
    have h2:=hnum.out
    simp only [tmB,wiB,Bool.and_eq_true,decide_eq_true_eq] at h1
    omega
   obtain ⟨hH,hD,hR⟩:=htb
   have hnn:2 ≤ t.n ∧ t.n ≤ 6:=by have:=hn.out; omega
   have hP:Hid (ParOk ⟨t,H,D,R,1⟩):=Lib.hid ⟨hT.out,hH.1,⟨hD.1,by show D ≤ 65536; omega⟩,by show (1:Int) ≤ 3; decide⟩
   have hF:Hid (FewP ⟨t,H,D,R,1⟩ n):=Lib.hid (by
    refine ⟨by omega,?_⟩
    show 2 * (n * (t.ln.length + t.ln.length * n)) ≤ 4000
    rw [hm.out]
    have:=Nat.mul_le_mul hn2.2 (Nat.add_le_add hm8 (Nat.mul_le_mul hm8 hn2.2))
    omega)
   have a0:=S.c 2 0 rfl rfl
   have a1:=S.c 2 1 rfl rfl
   have a2:=S.c 2 2 rfl rfl
   have b0:=S.c 1 0 rfl rfl
   have b1:=S.c 1 1 rfl rfl
   have b2:=S.c 1 2 rfl rfl
   have NB:=Lib.hid (nbuild_any wr _ t n (TW.out wr S.b) hT.out hn.out (by omega) H D R htm.out)
   go_wp2_with fail
   (with_reducible refine (NB.out).mono ?_)
   rintro e w6 ⟨N,wb,rfl,hN,hbb⟩
   have hb6:=hbb.trans (hN.bel.mono hbb.size)
   have CR:=Lib.hid (connected_any w6 _ ⟨t.n,[],rstL t.ln q k⟩ n hn.out (by omega) (by omega) (RT.out w6 hb6) (by have:=rstL_len t.ln q k; show (rstL t.ln q k).length ≤ 256; omega) (fun x hx=>by
    obtain ⟨i,_,_,hi⟩:=rstL_mem hx
    exact hln.out x (List.mem_of_getElem? hi)))
   have hbx:=S.b.trans (hbb.mono S.b.size)
   have SB:=Lib.hid ((S.call hbb).keepBoxes [(w.heap.size + 1,[.int .i64 H,.int .i64 D,.int .i64 R]),(w.heap.size,[.int .i64 t.n,.slice A ko c,.slice B k d])] (by simp))
   replace S:=S.call hb6
   clear NB RT a0 a1 a2 b0 b1 b2 hb6 hbb
   have r0:=S.c 0 0 rfl rfl
   have r1:=S.c 0 1 rfl rfl
   have r2:=S.c 0 2 rfl rfl
   replace hN:=Lib.hid hN
   replace hbx:=Lib.hid hbx
   go_wp2_with fail
   (with_reducible refine (CR.out).mono ?_)
   rintro e w7 ⟨r3,rfl,hr3,hb7⟩
   replace S:=(S.call hb7).keepBoxes [(w.heap.size + 1,[.int .i64 H,.int .i64 D,.int .i64 R]),(w.heap.size,[.int .i64 t.n,.slice A ko c,.slice B k d])] (by simp)
   replace hN:=Lib.hid (hN.out.below hb7)
   clear CR r0 r1 r2 hb7
   rcases r3 with _ | _
   ·have hb9:=S.b
    clear S hr3
    go_wp2_with fail
    go_ret
    exact ⟨rfl,hb9⟩
   replace hr3:=Lib.hid (hr3 rfl)
   have a0:=S.c 1 0 rfl rfl
   have b0:=S.c 0 0 rfl rfl
   have b2:=S.c 0 2 rfl rfl
   have r0:RunOk ⟨t,H,D,R,1⟩ n dead0 (H + 1) 0 (fun i=>newS t i H D R):=⟨ivn_start hP.out hn.out (Int.le_refl 1) htm.out,fun h=>absurd h (by omega)⟩
   have RN:=Lib.hid (nrun_any hP.out hn.out hF.out (Int.le_refl 0) (Int.le_refl _) (con_dead0 hP.out hn.out hr3.out) hN.out r0 (2 * H + 2 * R + t.n).toNat (2 * H + 2 * R + t.n) (by omega) (by omega))
   clear r0 hN
   go_wp2_with fail
   (with_reducible refine (RN.out).mono ?_)
   rintro e w8 ⟨N8,S8,rfl,hs8,hN8,hr8⟩
   clear RN S a0 b0 b2
   have hT8:H + 1 ≤ 0 + (2 * H + 2 * R + t.n) ∧ 0 + (2 * H + 2 * R + t.n) ≤ 26:=by omega
   have AG:=nagree_any hN8 (hr8.iv.agr hP.out hn.out hT8.1 (by omega) (hr8.fin (by have:=hn.out; omega) (by omega)))
   unfold SameN at hs8
   rw [hs8] at AG
   replace AG:=Lib.hid AG
   replace hs8:=Lib.hid hs8
   replace hr8:=Lib.hid hr8
   replace hN8:=Lib.hid hN8
   go_wp2_with fail
   (with_reducible refine (AG.out).mono ?_)
   rintro e w9 ⟨rfl,hb9⟩
   have hN9:=Lib.hid (hN8.out.below hb9)
   clear AG hN8 hb9
   generalize hTT:0 + (2 * H + 2 * R + t.n) = T8 at *
   clear hTT
   have hql:q < t.ln.length:=by rw [hm.out]; exact hqm
   obtain ⟨ya,yb,hya,hyb,hyan,hybn⟩:=hln.out _ (List.getElem_mem hql)
   obtain ⟨y,hy⟩:∃ y,t.ln[q] = y:=⟨_,rfl⟩
   rw [hy] at hya hyb
   have hye:t.ln[q]? = some y:=by rw [List.getElem?_eq_getElem hql,hy]
   have hne:yb ≠ ya:=by have:=(lk_ok hT.out hye).ne; omega
   have hL1:Lnk t ya q yb:=⟨y,hye,.inl ⟨hya,hyb⟩⟩
   have hP3:ParOk ⟨t,H,D,R,3⟩:=⟨hT.out,hH.1,⟨hD.1,by show D ≤ 65536; omega⟩,by show (3:Int) ≤ 3; decide⟩
   obtain ⟨xa,hxa,hfa,hxal,-⟩:=hr8.out.iv.port hT.out hyan hL1.symm
   have I0:Ivn ⟨t,H,D,R,3⟩ n dead0 T8 S8 []:=hr8.out.iv.wk 3 (by show (1:Int) ≤ 3; decide)
   have hxs:=fun i (hi:i < n)=>(hr8.out.iv.xb i hi).1
   have I1:=(I0.fail hP3 hT8.1 hyan hxa hxal (fun h=>h) (by have:=hxs ya hyan; simp only at this ⊢; omega)).1
   obtain ⟨sA,hsA⟩:∃ sA,chgS (S8 ya) xa 0 0 = sA:=⟨_,rfl⟩
   rw [hsA] at I1
   obtain ⟨xb,hxb,hfb,hxbl,-⟩:=I1.port hT.out hybn hL1
   have I2:=(I1.fail hP3 hT8.1 hybn hxb hxbl (fun h=>by rcases h with h | h; exact h; exact hne h.1) (by rw [updP_ne _ _ hne]; have:=hxs yb hybn; simp only at this ⊢; omega)).1
   obtain ⟨sB,hsB⟩:∃ sB,chgS (updP S8 ya sA yb) xb 0 0 = sB:=⟨_,rfl⟩
   rw [hsB] at I2
   have FA:Hid (∀ W,Below w9.heap.size w9 W → Calls Tryz.prog 22 #[.pointer (some ⟨(N8.M ya).g,0,none⟩),.int .i64 (q:Int)] W (ToPost W (N8.M ya) N8.col (ya + 1) sA (.int .i64 0))):=Lib.hid (fun W hb=>by
    have ok:=(I0.st ya hyan).ok
    have:=spFail_any W (N8.M ya) (S8 ya) N8.col (ya + 1) ((hN9.out.sp ya hyan).below hb) (by have:=ok.pl; omega) (q:Int) (fun i hi=>by rw [hfa] at hi; injection hi with hi; subst hi; exact ok.fo hxa 0 0)
    unfold faiS at this
    rw [hfa] at this
    simp only [hsA] at this
    exact this)
   have FB:Hid (∀ W N2,NtwAt wb.heap.size w6.heap.size wb W N2 n t (updP S8 ya sA) → Calls Tryz.prog 22 #[.pointer (some ⟨(N2.M yb).g,0,none⟩),.int .i64 (q:Int)] W (ToPost W (N2.M yb) N2.col (yb + 1) sB (.int .i64 0))):=Lib.hid (fun W N2 h2=>by
    have ok:=(I1.st yb hybn).ok
    have:=spFail_any W (N2.M yb) (updP S8 ya sA yb) N2.col (yb + 1) (h2.sp yb hybn) (by have:=ok.pl; omega) (q:Int) (fun i hi=>by rw [hfb] at hi; injection hi with hi; subst hi; exact ok.fo hxb 0 0)
    unfold faiS at this
    rw [hfb] at this
    simp only [hsB] at this
    exact this)
   have hI2:Hid (Ivn ⟨t,H,D,R,3⟩ n (deadL ya yb q) T8 (updP (updP S8 ya sA) yb sB) []):=Lib.hid I2
   clear I0 I1 I2 hxs hxa hfa hxal hxb hfb hxbl hsA hsB hr8
   have hND:=hN9.out.below (Below.refl w9.heap.size w9).drew
   obtain ⟨b1,off1,hA1,-⟩:=rd_at (own_slice hND.rp) (by rw [ptrN_len]; omega)
   obtain ⟨x3,xi⟩:=hND.rows hs8.out hA1 rfl (fun _=>rfl) (by omega)
   have zA:=xi ya hyan
   have zB:=xi yb hybn
   have SD:=SB.out.call hND.bel
   have c2:=SD.c 1 2 rfl rfl
   obtain ⟨pb,off,rfl,-⟩:=rd_lk (SD.r 0 rfl) (by omega)
   have lA:=(lk_cells8 (SD.r 0 rfl) hql hy).1
   have lB:=(lk_cells8 (SD.r 0 rfl) hql hy).2
   rw [hya] at lA
   rw [hyb] at lB
   have FA':=Lib.hid (FA.out w9.drew (Below.refl w9.heap.size w9).drew)
   unfold ToPost at FA' FB
   replace hND:=Lib.hid hND
   replace hA1:=Lib.hid hA1
   replace hya:=Lib.hid hya
   replace hyb:=Lib.hid hyb
   replace hy:=Lib.hid hy
   clear xi SD FA hN9
   have htmp:True:=trivial
   go_upto_region 17 with fail
   refine wp_region_noPanic ?_
   refine wp_region_held_drew (S:=fun W=>W.cell? ⟨N.g,3,none⟩ = some (.slice (some ⟨b1,off1,none⟩) n N8.c1) ∧ W.cell? ⟨b1,off1 + ya,none⟩ = some (.pointer (some ⟨(N8.M ya).g,0,none⟩)) ∧ W.cell? ⟨b1,off1 + yb,none⟩ = some (.pointer (some ⟨(N8.M yb).g,0,none⟩)) ∧ W.cell? ⟨w.heap.size,2,none⟩ = some (.slice (some ⟨pb,off,none⟩) k d) ∧ W.cell? ⟨pb,off + q * 7,none⟩ = some (.int .i64 (ya:Int)) ∧ W.cell? ⟨pb,off + q * 7 + 1,none⟩ = some (.int .i64 (yb:Int))) (by kernel_rfl) ⟨x3,zA,zB,c2,lA,lB⟩ (fun hHeld=>?_)
   generalize w9.drew = wd at *
   clear x3 zA zB c2 lA lB
   refine take_first (i:=0) (v:=?_) (some 138) rfl rfl (by kernel_rfl) (by kernel_rfl) (by kernel_rfl) (fun _ _ _ h=>h) (Or.inl ⟨by rfl,?_⟩) (by assumption) ?_
   rotate_left
   ·intro w hSw; (try dsimp only at hSw); go_simp; (try with_reducible rfl)
   try simp only [Act.put,List.setIfInBounds_toArray,List.set_cons_succ,List.set_cons_zero]
   refine take_first (i:=1) (v:=?_) (some 139) rfl rfl (by kernel_rfl) (by kernel_rfl) (by kernel_rfl) (fun _ _ _ h=>h) (Or.inl ⟨by rfl,?_⟩) (by assumption) ?_
   rotate_left
   ·intro w hSw; (try dsimp only at hSw); go_simp; (try with_reducible rfl)
   try simp only [Act.put,List.setIfInBounds_toArray,List.set_cons_succ,List.set_cons_zero]
   refine take_first (i:=2) (v:=?_) (some 140) rfl rfl (by kernel_rfl) (by kernel_rfl) (by kernel_rfl) (fun _ _ _ h=>h) (Or.inl ⟨by rfl,?_⟩) (by assumption) ?_
   rotate_left
   ·intro w hSw; (try dsimp only at hSw); go_simp; (try with_reducible rfl)
   try simp only [Act.put,List.setIfInBounds_toArray,List.set_cons_succ,List.set_cons_zero]
   refine take_first (i:=3) (v:=?_) (some 141) rfl rfl (by kernel_rfl) (by kernel_rfl) (by kernel_rfl) (fun _ _ _ h=>h) (Or.inl ⟨by rfl,?_⟩) (by assumption) ?_
   rotate_left
   ·intro w hSw; (try dsimp only at hSw); go_simp; (try with_reducible rfl)
   try simp only [Act.put,List.setIfInBounds_toArray,List.set_cons_succ,List.set_cons_zero]
   refine take_first (i:=4) (v:=?_) (some 142) rfl rfl (by kernel_rfl) (by kernel_rfl) (by kernel_rfl) (fun _ _ _ h=>h) (Or.inl ⟨by rfl,?_⟩) (by assumption) ?_
   rotate_left
   ·intro w hSw; (try dsimp only at hSw); go_simp; (try with_reducible rfl)
   try simp only [Act.put,List.setIfInBounds_toArray,List.set_cons_succ,List.set_cons_zero]
   refine take_first (i:=5) (v:=?_) (some 143) rfl rfl (by kernel_rfl) (by kernel_rfl) (by kernel_rfl) (fun _ _ _ h=>h) (Or.inl ⟨by rfl,?_⟩) (by assumption) ?_
   rotate_left
   ·intro w hSw; (try dsimp only at hSw); go_simp; (try with_reducible rfl)
   try simp only [Act.put,List.setIfInBounds_toArray,List.set_cons_succ,List.set_cons_zero]
   refine take_first (i:=6) (v:=?_) (some 144) rfl rfl (by kernel_rfl) (by kernel_rfl) (by kernel_rfl) (fun _ _ _ h=>h) (Or.inl ⟨by rfl,?_⟩) (by assumption) ?_
   rotate_left
   ·intro w hSw; (try dsimp only at hSw); go_simp; (try with_reducible rfl)
   try simp only [Act.put,List.setIfInBounds_toArray,List.set_cons_succ,List.set_cons_zero]
   refine take_first (i:=7) (v:=?_) (some 145) rfl rfl (by kernel_rfl) (by kernel_rfl) (by kernel_rfl) (fun _ _ _ h=>h) (Or.inl ⟨by rfl,?_⟩) (by assumption) ?_
   rotate_left
   ·intro w hSw; (try dsimp only at hSw); go_simp; (try with_reducible rfl)
   try simp only [Act.put,List.setIfInBounds_toArray,List.set_cons_succ,List.set_cons_zero]
   refine take_first (i:=8) (v:=?_) (some 146) rfl rfl (by kernel_rfl) (by kernel_rfl) (by kernel_rfl) (fun _ _ _ h=>h) (Or.inl ⟨by rfl,?_⟩) (by assumption) ?_
   rotate_left
   ·intro w hSw; (try dsimp only at hSw); go_simp; (try with_reducible rfl)
   try simp only [Act.put,List.setIfInBounds_toArray,List.set_cons_succ,List.set_cons_zero]
   refine take_first (i:=9) (v:=?_) (some 147) rfl rfl (by kernel_rfl) (by kernel_rfl) (by kernel_rfl) (fun _ _ _ h=>h) (Or.inl ⟨by rfl,?_⟩) (by assumption) ?_
   rotate_left
   ·intro w hSw; (try dsimp only at hSw); go_simp; (try with_reducible rfl)
   try simp only [Act.put,List.setIfInBounds_toArray,List.set_cons_succ,List.set_cons_zero]
   refine take_first (i:=10) (v:=?_) (some 148) rfl rfl (by kernel_rfl) (by kernel_rfl) (by kernel_rfl) (fun _ _ _ h=>h) (Or.inl ⟨by rfl,?_⟩) (by assumption) ?_
   rotate_left
   ·intro w hSw; (try dsimp only at hSw); go_simp; (try with_reducible rfl)
   try simp only [Act.put,List.setIfInBounds_toArray,List.set_cons_succ,List.set_cons_zero]
   refine take_first (i:=11) (v:=?_) (some 149) rfl rfl (by kernel_rfl) (by kernel_rfl) (by kernel_rfl) (fun _ _ _ h=>h) (Or.inl ⟨by rfl,?_⟩) (by assumption) ?_
   rotate_left
   ·intro w hSw; (try dsimp only at hSw); go_simp; (try with_reducible rfl)
   try simp only [Act.put,List.setIfInBounds_toArray,List.set_cons_succ,List.set_cons_zero]
   refine take_first (i:=12) (v:=?_) (some 150) rfl rfl (by kernel_rfl) (by kernel_rfl) (by kernel_rfl) (fun _ _ _ h=>h) (Or.inl ⟨by rfl,?_⟩) (by assumption) ?_
   rotate_left
   ·intro w hSw; (try dsimp only at hSw); go_simp; (try with_reducible rfl)
   try simp only [Act.put,List.setIfInBounds_toArray,List.set_cons_succ,List.set_cons_zero]
   refine wpAnyH_ready (rs:=[13]) (by kernel_rfl) (by simp) ?_
   refine AllReadyH.cons rfl (fun K hK=>?_) AllReadyH.nil
   go_simp
   (with_reducible refine (FA'.out).mono ?_)
   rintro e wa ⟨rfl,hto⟩
   dsimp only
   obtain ⟨N2,n1,n2,n3,-,-,n6,h2,-⟩:=hND.out.turn hyan hto
   obtain ⟨y3,yi⟩:=h2.rows (n1.trans hs8.out) (n2.trans hA1.out) n3 (fun j=>n6 j) (by omega)
   have S2:=SB.out.call h2.bel
   have l2:=lk_cells8 (S2.r 0 rfl) hql hy.out
   have lA:=l2.1
   have lB:=l2.2
   rw [hya.out] at lA
   rw [hyb.out] at lB
   refine hK.out _ _ ⟨y3,yi ya hyan,yi yb hybn,S2.c 1 2 rfl rfl,lA,lB⟩ (fun hHeld=>?_)
   clear hK K y3 yi S2 l2 lA lB hto FA' hND
   have FB2:=FB.out _ _ h2
   rw [n6] at FB2
   replace FB2:=Lib.hid FB2
   have n6':=Lib.hid n6
   have n12:=Lib.hid (⟨n1.trans hs8.out,n2.trans hA1.out,n3⟩:N2.g = N.g ∧ N2.A1 = some ⟨b1,off1,none⟩ ∧ N2.c1 = N8.c1)
   replace h2:=Lib.hid h2
   clear FB n1 n2 n3 n6
   refine take_first (i:=14) (v:=?_) (some 152) rfl rfl (by kernel_rfl) (by kernel_rfl) (by kernel_rfl) (fun _ _ _ h=>h) (Or.inl ⟨by rfl,?_⟩) (by assumption) ?_
   rotate_left
   ·intro w hSw; (try dsimp only at hSw); go_simp; (try with_reducible rfl)
   try simp only [Act.put,List.setIfInBounds_toArray,List.set_cons_succ,List.set_cons_zero]
   refine take_first (i:=15) (v:=?_) (some 153) rfl rfl (by kernel_rfl) (by kernel_rfl) (by kernel_rfl) (fun _ _ _ h=>h) (Or.inl ⟨by rfl,?_⟩) (by assumption) ?_
   rotate_left
   ·intro w hSw; (try dsimp only at hSw); go_simp; (try with_reducible rfl)
   try simp only [Act.put,List.setIfInBounds_toArray,List.set_cons_succ,List.set_cons_zero]
   refine take_first (i:=16) (v:=?_) (some 154) rfl rfl (by kernel_rfl) (by kernel_rfl) (by kernel_rfl) (fun _ _ _ h=>h) (Or.inl ⟨by rfl,?_⟩) (by assumption) ?_
   rotate_left
   ·intro w hSw; (try dsimp only at hSw); go_simp; (try with_reducible rfl)
   try simp only [Act.put,List.setIfInBounds_toArray,List.set_cons_succ,List.set_cons_zero]
   refine take_first (i:=17) (v:=?_) (some 155) rfl rfl (by kernel_rfl) (by kernel_rfl) (by kernel_rfl) (fun _ _ _ h=>h) (Or.inl ⟨by rfl,?_⟩) (by assumption) ?_
   rotate_left
   ·intro w hSw; (try dsimp only at hSw); go_simp; (try with_reducible rfl)
   try simp only [Act.put,List.setIfInBounds_toArray,List.set_cons_succ,List.set_cons_zero]
   refine take_first (i:=18) (v:=?_) (some 156) rfl rfl (by kernel_rfl) (by kernel_rfl) (by kernel_rfl) (fun _ _ _ h=>h) (Or.inl ⟨by rfl,?_⟩) (by assumption) ?_
   rotate_left
   ·intro w hSw; (try dsimp only at hSw); go_simp; (try with_reducible rfl)
   try simp only [Act.put,List.setIfInBounds_toArray,List.set_cons_succ,List.set_cons_zero]
   refine take_first (i:=19) (v:=?_) (some 157) rfl rfl (by kernel_rfl) (by kernel_rfl) (by kernel_rfl) (fun _ _ _ h=>h) (Or.inl ⟨by rfl,?_⟩) (by assumption) ?_
   rotate_left
   ·intro w hSw; (try dsimp only at hSw); go_simp; (try with_reducible rfl)
   try simp only [Act.put,List.setIfInBounds_toArray,List.set_cons_succ,List.set_cons_zero]
   refine take_first (i:=20) (v:=?_) (some 158) rfl rfl (by kernel_rfl) (by kernel_rfl) (by kernel_rfl) (fun _ _ _ h=>h) (Or.inl ⟨by rfl,?_⟩) (by assumption) ?_
   rotate_left
   ·intro w hSw; (try dsimp only at hSw); go_simp; (try with_reducible rfl)
   try simp only [Act.put,List.setIfInBounds_toArray,List.set_cons_succ,List.set_cons_zero]
   refine take_first (i:=21) (v:=?_) (some 159) rfl rfl (by kernel_rfl) (by kernel_rfl) (by kernel_rfl) (fun _ _ _ h=>h) (Or.inl ⟨by rfl,?_⟩) (by assumption) ?_
   rotate_left
   ·intro w hSw; (try dsimp only at hSw); go_simp; (try with_reducible rfl)
   try simp only [Act.put,List.setIfInBounds_toArray,List.set_cons_succ,List.set_cons_zero]
   refine take_first (i:=22) (v:=?_) (some 160) rfl rfl (by kernel_rfl) (by kernel_rfl) (by kernel_rfl) (fun _ _ _ h=>h) (Or.inl ⟨by rfl,?_⟩) (by assumption) ?_
   rotate_left
   ·intro w hSw; (try dsimp only at hSw); go_simp; (try with_reducible rfl)
   try simp only [Act.put,List.setIfInBounds_toArray,List.set_cons_succ,List.set_cons_zero]
   refine take_first (i:=23) (v:=?_) (some 161) rfl rfl (by kernel_rfl) (by kernel_rfl) (by kernel_rfl) (fun _ _ _ h=>h) (Or.inl ⟨by rfl,?_⟩) (by assumption) ?_
   rotate_left
   ·intro w hSw; (try dsimp only at hSw); go_simp; (try with_reducible rfl)
   try simp only [Act.put,List.setIfInBounds_toArray,List.set_cons_succ,List.set_cons_zero]
   refine take_first (i:=24) (v:=?_) (some 162) rfl rfl (by kernel_rfl) (by kernel_rfl) (by kernel_rfl) (fun _ _ _ h=>h) (Or.inl ⟨by rfl,?_⟩) (by assumption) ?_
   rotate_left
   ·intro w hSw; (try dsimp only at hSw); go_simp; (try with_reducible rfl)
   try simp only [Act.put,List.setIfInBounds_toArray,List.set_cons_succ,List.set_cons_zero]
   refine take_first (i:=25) (v:=?_) (some 163) rfl rfl (by kernel_rfl) (by kernel_rfl) (by kernel_rfl) (fun _ _ _ h=>h) (Or.inl ⟨by rfl,?_⟩) (by assumption) ?_
   rotate_left
   ·intro w hSw; (try dsimp only at hSw); go_simp; (try with_reducible rfl)
   try simp only [Act.put,List.setIfInBounds_toArray,List.set_cons_succ,List.set_cons_zero]
   refine take_first (i:=26) (v:=?_) (some 164) rfl rfl (by kernel_rfl) (by kernel_rfl) (by kernel_rfl) (fun _ _ _ h=>h) (Or.inl ⟨by rfl,?_⟩) (by assumption) ?_
   rotate_left
   ·intro w hSw; (try dsimp only at hSw); go_simp; (try with_reducible rfl)
   try simp only [Act.put,List.setIfInBounds_toArray,List.set_cons_succ,List.set_cons_zero]
   refine take_first (i:=27) (v:=?_) (some 165) rfl rfl (by kernel_rfl) (by kernel_rfl) (by kernel_rfl) (fun _ _ _ h=>h) (Or.inl ⟨by rfl,?_⟩) (by assumption) ?_
   rotate_left
   ·intro w hSw; (try dsimp only at hSw); go_simp; (try with_reducible rfl)
   try simp only [Act.put,List.setIfInBounds_toArray,List.set_cons_succ,List.set_cons_zero]
   refine take_first (i:=28) (v:=?_) (some 166) rfl rfl (by kernel_rfl) (by kernel_rfl) (by kernel_rfl) (fun _ _ _ h=>h) (Or.inl ⟨by rfl,?_⟩) (by assumption) ?_
   rotate_left
   ·intro w hSw; (try dsimp only at hSw); go_simp; (try with_reducible rfl)
   try simp only [Act.put,List.setIfInBounds_toArray,List.set_cons_succ,List.set_cons_zero]
   refine wpAnyH_ready (rs:=[29]) (by kernel_rfl) (by simp) ?_
   refine AllReadyH.cons rfl (fun K hK=>?_) AllReadyH.nil
   go_simp
   (with_reducible refine (FB2.out).mono ?_)
   rintro e wc ⟨rfl,hto2⟩
   dsimp only
   obtain ⟨N3,m1,m2,m3,-,-,m6,h3,-⟩:=h2.out.turn hybn hto2
   obtain ⟨y3,yi⟩:=h3.rows (m1.trans n12.out.1) (m2.trans n12.out.2.1) (m3.trans n12.out.2.2) (fun j=>(m6 j).trans (n6'.out j)) (by omega)
   have S2:=SB.out.call h3.bel
   have l2:=lk_cells8 (S2.r 0 rfl) hql hy.out
   have lA:=l2.1
   have lB:=l2.2
   rw [hya.out] at lA
   rw [hyb.out] at lB
   refine hK.out _ _ ⟨y3,yi ya hyan,yi yb hybn,S2.c 1 2 rfl rfl,lA,lB⟩ (fun hHeld=>?_)
   have hs3:Hid (SameN N N3):=Lib.hid (m1.trans n12.out.1)
   clear hK K y3 yi S2 l2 lA lB hto2 h2 FB2 n12 n6' m1 m2 m3 m6
   replace h3:=Lib.hid h3
   refine take_first (i:=30) (v:=?_) (some 168) rfl rfl (by kernel_rfl) (by kernel_rfl) (by kernel_rfl) (fun _ _ _ h=>h) (Or.inl ⟨by rfl,?_⟩) (by assumption) ?_
   rotate_left
   ·intro w hSw; (try dsimp only at hSw); go_simp; (try with_reducible rfl)
   try simp only [Act.put,List.setIfInBounds_toArray,List.set_cons_succ,List.set_cons_zero]
   refine take_first (i:=31) (v:=?_) (some 169) rfl rfl (by kernel_rfl) (by kernel_rfl) (by kernel_rfl) (fun _ _ _ h=>h) (Or.inl ⟨by rfl,?_⟩) (by assumption) ?_
   rotate_left
   ·intro w hSw; (try dsimp only at hSw); go_simp; (try with_reducible rfl)
   try simp only [Act.put,List.setIfInBounds_toArray,List.set_cons_succ,List.set_cons_zero]
   refine wpAnyH_done (by kernel_rfl) ?_ _
   refine NoPanic.normal ?_
   clear hHeld
   go_upto_region 20 with fail
   obtain ⟨P,hPt,hPH,hPR,hP9,hI9,hF9,hC9⟩:∃ P:Par,P.t = t ∧ P.H = H ∧ P.R = R ∧ Hid (ParOk P) ∧ Hid (Ivn P n (deadL ya yb q) T8 (updP (updP S8 ya sA) yb sB) []) ∧ Hid (FewP P n) ∧ Hid (ConnP P n (deadL ya yb q)):=⟨⟨t,H,D,R,3⟩,rfl,rfl,rfl,Lib.hid hP3,hI2,hF,Lib.hid (con_deadL (k:=k) hP3 hn.out hr3.out)⟩
   generalize updP (updP S8 ya sA) yb sB = SL at *
   generalize w6.heap.size = Bn at *
   clear hI2 hF hP hP3 hr3 htmp
   have hT89:H + 1 ≤ T8 ∧ T8 ≤ 26:=hT8
   rw [← hPH] at hT89
   subst hPt
   replace hye:=Lib.hid hye
   have hRO:Hid (RunOk P n (deadL ya yb q) T8 (T8 + ((0:Nat):Int)) SL):=Lib.hid ⟨by rw [show T8 + ((0:Nat):Int) = T8 by simp]; exact hI9.out,fun _=>by rw [show T8 + ((0:Nat):Int) = T8 by simp]; exact cvg_start hI9.out⟩
   obtain ⟨z2,hz2⟩:∃ z2:Nat,2 * R + P.t.n + 2 = (z2:Int):=⟨(2 * R + P.t.n + 2).toNat,by omega⟩
   have hz29:z2 ≤ 18:=by omega
   replace hz2:=Lib.hid hz2
   have hTc:P.H + 1 ≤ T8:=hT89.1
   have hT9:0 ≤ T8 ∧ T8 ≤ 26:=by have:=hP9.out.H; omega
   have hP:=hP9
   have hf:=hF9
   have hc:=hC9
   clear hI9 hT8 hPH hPR hP9 hF9 hC9 hT89 hA1
   go_wp2_with fail
   go_loopw [12] (fun v12 wr=>∃ (kk:Nat) (N1:Nm) (S1:Sps),v12 = .int .i64 kk ∧ kk ≤ z2 ∧ Hid (SameN N N1) ∧ Hid (NtwAt wb.heap.size Bn wb wr N1 n P.t S1) ∧ Hid (RunOk P n (deadL ya yb q) T8 (T8 + (kk:Int)) S1)) (fun v12 _=>z2 - (intOf v12).toNat)
   case atStart=>exact ⟨0,N3,SL,rfl,by omega,hs3,h3,hRO⟩
   case round =>
    clear h3 hRO hs3
    obtain ⟨kk,N1,S1,rfl,hk9,hs1,h1,hr1⟩:=hrel
    have SK:=SB.out.call h1.out.bel
    have g2:=SK.c 0 2 rfl rfl
    have g0:=SK.c 1 0 rfl rfl
    clear SK
    by_cases hkz:kk < z2
    ·have elt:decide ((kk:Int) < 2 * R + P.t.n + 2) = true:=by have:=hz2.out; simp; omega
     have tk:=hr1.out.iv.tkok hP.out hn.out hf.out (by omega) (by omega)
     have hct:=hr1.out.iv.count hP.out hn.out (by omega) (by omega)
     have hst:=Rnd.start hP.out hn.out (deadL_sym hP.out hye.out hya.out hyb.out) hr1.out.iv (by omega) (by omega)
     have TK:=ntick_any h1.out tk
     rw [hs1.out] at TK
     unfold TickP at TK
     have hmu0:Hid (0 + mu (tickW P.t.ln n S1) ≤ 4000):=by
      have h5:=mu_le (tickW P.t.ln n S1)
      have h6:=hf.out.2
      exact Lib.hid (by omega)
     replace TK:=Lib.hid TK
     replace hst:=Lib.hid hst
     clear tk hct h1
     go_wp2_with fail
     (with_reducible refine (TK.out).mono ?_)
     rintro e w3 ⟨N3,A,c,ws,hs3,rfl,h3,hw3⟩
     clear TK
     have hs3':Hid (SameN N N3):=hs3.trans hs1.out
     have hw3:=Lib.hid hw3.wv
     replace h3:=Lib.hid h3
     clear hs3 hs1
     go_wp2_with fail
     go_loopw [13,14] (fun v13 v14 wr=>∃ (cnt:Nat) (N3:Nm) (S3:Sps) (way:List Env) (A:Option Addr) (c:Nat) (ws:List Wx),v13 = .slice A ws.length c ∧ v14 = .int .i64 cnt ∧ Hid (SameN N N3) ∧ Hid (NtwAt wb.heap.size Bn wb wr N3 n P.t S3) ∧ Hid (WvAt wr Bn A c ws way) ∧ Hid (Rnd P n (deadL ya yb q) (T8 + (kk:Int) + 1) S1 S3 way) ∧ Hid (cnt + mu way ≤ 4000)) (fun _ v14 _=>4001 - (intOf v14).toNat)
     case atStart=>exact ⟨0,N3,_,_,A,c,ws,rfl,rfl,hs3',h3,hw3,hst,hmu0⟩
     case round =>
      clear h3 hw3 hst hmu0 hs3'
      obtain ⟨cnt,N3,S3,way,A,c,ws,rfl,rfl,hs3,h3,hw3,hrd,hmu⟩:=hrel
      rcases ws with _ | ⟨x,r⟩
      ·have hwn:=hw3.out.nil
       subst hwn
       have hr9:Hid (RunOk P n (deadL ya yb q) T8 (T8 + ((kk + 1:Nat):Int)) S3):=by
        have:=hr1.out.next hP.out hc.out hTc hrd.out
        rw [show T8 + ((kk + 1:Nat):Int) = T8 + (kk:Int) + 1 by omega]
        exact this
       clear hw3 hrd hmu hr1
       go_wp2_with fail
       go_round
       case rel=>exact ⟨kk + 1,N3,S3,by go_num,by omega,hs3,h3,hr9⟩
       case measure=>simp [intOf]; omega
      ·obtain ⟨e,es,rfl,e1,e2,e3,hw4,b,off,rfl,y0,y1,y2⟩:=hw3.out.cons
       by_cases hel:e.l = q
       ·have hdd:=env_dead hrd.out.iv hye.out hya.out hyb.out hel
        have hrd2:Hid (Rnd P n (deadL ya yb q) (T8 + (kk:Int) + 1) S1 S3 es):=Lib.hid (hrd.out.drop hdd)
        have hmu2:Hid (cnt + 1 + mu es ≤ 4000):=Lib.hid (by
         have h5:=hmu.out
         have h6:1 ≤ muE e:=by unfold muE; split <;> omega
         simp only [mu] at h5
         omega)
        have hcs:cnt ≤ 3999:=by have:=hmu2.out; omega
        have hsl:∀ W,(Instr.slice 87 (.slice (some ⟨b,off,none⟩) (r.length + 1) c) (some (.int .i64 1)) none none).run Tryz.prog W = .ok (.slice (subS 3 (some ⟨b,off,none⟩) 1 c) r.length (c - 1)) W:=fun W=>run_fromS wxT (some ⟨b,off,none⟩) (r.length + 1) c 1 (by omega) W
        obtain ⟨A',hA'⟩:∃ A',subS 3 (some ⟨b,off,none⟩) 1 c = A':=⟨_,rfl⟩
        rw [hA'] at hsl hw4
        have e9:((e.l:Int) == (q:Int)) = true:=by simp [hel]
        have hwl:r.length + 1 ≤ 4000:=by
         have h5:=len_mu (e :: es)
         have h6:=hmu.out
         have h7:=hw3.out.len
         simp only [List.length_cons] at *
         omega
        have hbw:=below_new' wr (.cells #[.int .i64 (e.t:Int),.int .i64 (e.l:Int),.slice x.A (packB e.m).length x.c] 91)
        have h6:=Lib.hid (h3.out.below hbw)
        have hw6:=Lib.hid (hw4.below hbw)
        clear h3 hw3 hw4 hrd hmu hA' hdd hel hbw
        simp only [List.length_cons]
        go_wp2_with fail
        go_round
        case rel=>exact ⟨cnt + 1,N3,S3,es,A',c - 1,r,rfl,by go_num,hs3,h6,hw6,hrd2,hmu2⟩
        case measure=>simp [intOf]; omega
       have e9:((e.l:Int) == (q:Int)) = false:=by simp; omega
       have hnd:¬ (deadL ya yb q) e.t e.l:=fun h=>hel (deadL_q h)
       obtain ⟨het,hms,px,hpx,hfnd,hpl,hpn,DL⟩:=hrd.out.iv.dlv hP.out (by omega) (by omega) hnd
       have hrcv:=rcv_net hms (hrd.out.iv.nopre hnd) hfnd hpx hpn
       have hnx:=hrd.out.dlv DL
       have hmux:=mu_dlv DL
       have hcnt:cnt + (mu (es ++ postE P.t.ln e.t (recS (S3 e.t) px e.m).2) + 1) ≤ 4000:=by
        have:=hmu.out
        omega
       have hlk:∀ y ∈ (recS (S3 e.t) px e.m).2,∃ q j:Nat,y.1 = (q:Int) ∧ Lnk P.t e.t q j:=fun y hy=>by
        obtain ⟨j,hj⟩:=hrd.out.iv.elnk hnd
        exact ⟨e.l,j,(DL.ok y hy).1,hj⟩
       have hol:(recS (S3 e.t) px e.m).2.length ≤ 100000:=by
        have:=DL.ct
        split at this <;> omega
       have hso:=hw3.out.so x (by simp)
       rw [e3] at y2
       obtain ⟨hbs,hc1,hc2,_⟩:=own_read hso
       rw [e3] at hbs hc1
       have RC:=fun W (hb:Below wr.heap.size wr W)=>spRecv_any W (N3.M e.t) (S3 e.t) N3.col (e.t + 1) ((h3.out.sp e.t het).below hb) (hrd.out.iv.st e.t het).ok (e.l:Int) x.A _ x.c (packB e.m) (hbs.below hb) rfl hc1 hc2 pack_len
       simp only [hrcv] at RC
       have x3:=h3.out.bx.c 3 rfl
       rw [hs3.out] at x3
       obtain ⟨b1,off1,hA1,z1⟩:=rd_at (own_slice h3.out.rp) (by rw [ptrN_len]; omega)
       have zp:=z1 e.t _ (ptrN_get het)
       rw [hA1] at x3
       replace hA1:=Lib.hid hA1
       have hsl:∀ W,(Instr.slice 87 (.slice (some ⟨b,off,none⟩) (r.length + 1) c) (some (.int .i64 1)) none none).run Tryz.prog W = .ok (.slice (subS 3 (some ⟨b,off,none⟩) 1 c) r.length (c - 1)) W:=fun W=>run_fromS wxT (some ⟨b,off,none⟩) (r.length + 1) c 1 (by omega) W
       obtain ⟨A',hA'⟩:∃ A',subS 3 (some ⟨b,off,none⟩) 1 c = A':=⟨_,rfl⟩
       rw [hA'] at hsl hw4
       obtain ⟨out,hout⟩:∃ out,(recS (S3 e.t) px e.m).2 = out:=⟨_,rfl⟩
       obtain ⟨s',hs'⟩:∃ s',(recS (S3 e.t) px e.m).1 = s':=⟨_,rfl⟩
       simp only [show recS (S3 e.t) px e.m = (s',out) by rw [← hout,← hs']] at RC
       rw [hout] at hcnt hlk hol hnx
       rw [hs'] at hnx
       have e2':=hw3.out.len
       have hwl:(r.length + 1) ≤ 4000:=by
        have:=len_mu (e :: es)
        have:=hmu.out
        simp only [List.length_cons] at *
        omega
       obtain ⟨nb,hnb⟩:∃ nb,(packB e.m).length = nb:=⟨_,rfl⟩
       simp only [hnb] at RC
       rw [hnb] at y2
       replace RC:=Lib.hid RC
       replace hnx:=Lib.hid hnx
       replace hlk:=Lib.hid hlk
       replace hcnt:=Lib.hid hcnt
       replace hw4:=Lib.hid hw4
       clear hw3 hrd hmu hso hbs hc1 hc2 hmux DL hrcv hpn hpl hfnd hms z1 hnb hout hs' e2' hnd e3 e1 e2 hA' hel
       simp only [List.length_cons]
       have S6:=((St.start wr).new' #[.int .i64 (e.t:Int),.int .i64 (e.l:Int),.slice x.A nb x.c] 91 wr.heap.size _ rfl rfl)
       have h6:=h3.out.below S6.b
       have hw6:=hw4.out.below S6.b
       have x3':=cell_later S6.b x3
       have zp':=cell_later S6.b zp
       have q0:=S6.c 0 0 rfl rfl
       have q1:=S6.c 0 1 rfl rfl
       have q2:=S6.c 0 2 rfl rfl
       have RC6:=RC.out _ (S6.b.trans (Below.refl _ _).drew)
       have T6:=ty_new wr #[.int .i64 (e.t:Int),.int .i64 (e.l:Int),.slice x.A nb x.c] 91
       have bx6:=S6.box 0 rfl
       unfold RecvPost at RC6
       replace RC6:=Lib.hid RC6
       replace h6:=Lib.hid h6
       replace hw6:=Lib.hid hw6
       go_upto_region 29 with fail
       clear x3 zp y0 y1 y2 hsl RC h3 hw4 S6
       generalize World.alloc wr _ = w6 at *
       generalize wr.heap.size = kb at *
       have h7:=Lib.hid (h6.out.below (Below.refl w6.heap.size w6).drew)
       have hw7:=Lib.hid (hw6.out.below (Below.refl w6.heap.size w6).drew)
       have bx7:=bx6.later (Below.refl w6.heap.size w6).drew
       have T7:Ty w6.drew kb 91:=T6
       have x37:w6.drew.cell? ⟨N.g,3,none⟩ = some (.slice (some ⟨b1,off1,none⟩) n N3.c1):=x3'
       have zp7:w6.drew.cell? ⟨b1,off1 + e.t,none⟩ = some (.pointer (some ⟨(N3.M e.t).g,0,none⟩)):=zp'
       clear h6 hw6 bx6 T6 x3' zp' q0 q1 q2
       refine wp_region_noPanic ?_
       refine wp_region_held_drew (S:=fun W=>W.cell? ⟨N.g,3,none⟩ = some (.slice (some ⟨b1,off1,none⟩) n N3.c1) ∧ W.cell? ⟨b1,off1 + e.t,none⟩ = some (.pointer (some ⟨(N3.M e.t).g,0,none⟩)) ∧ W.cell? ⟨kb,0,none⟩ = some (.int .i64 (e.t:Int)) ∧ W.cell? ⟨kb,1,none⟩ = some (.int .i64 (e.l:Int)) ∧ W.cell? ⟨kb,2,none⟩ = some (.slice x.A nb x.c)) (by kernel_rfl) ⟨x37,zp7,bx7.c 0 rfl,bx7.c 1 rfl,bx7.c 2 rfl⟩ (fun hHeld=>?_)
       generalize w6.drew = w7 at *
       refine take_first (i:=0) (v:=?_) (some 198) rfl rfl (by kernel_rfl) (by kernel_rfl) (by kernel_rfl) (fun _ _ _ h=>h) (Or.inl ⟨by rfl,?_⟩) (by assumption) ?_
       rotate_left
       ·intro w hSw; (try dsimp only at hSw); go_simp; (try with_reducible rfl)
       try simp only [Act.put,List.setIfInBounds_toArray,List.set_cons_succ,List.set_cons_zero]
       refine take_first (i:=1) (v:=?_) (some 199) rfl rfl (by kernel_rfl) (by kernel_rfl) (by kernel_rfl) (fun _ _ _ h=>h) (Or.inl ⟨by rfl,?_⟩) (by assumption) ?_
       rotate_left
       ·intro w hSw; (try dsimp only at hSw); go_simp; (try with_reducible rfl)
       try simp only [Act.put,List.setIfInBounds_toArray,List.set_cons_succ,List.set_cons_zero]
       refine take_first (i:=2) (v:=?_) (some 200) rfl rfl (by kernel_rfl) (by kernel_rfl) (by kernel_rfl) (fun _ _ _ h=>h) (Or.inl ⟨by rfl,?_⟩) (by assumption) ?_
       rotate_left
       ·intro w hSw; (try dsimp only at hSw); go_simp; (try with_reducible rfl)
       try simp only [Act.put,List.setIfInBounds_toArray,List.set_cons_succ,List.set_cons_zero]
       refine take_first (i:=3) (v:=?_) (some 201) rfl rfl (by kernel_rfl) (by kernel_rfl) (by kernel_rfl) (fun _ _ _ h=>h) (Or.inl ⟨by rfl,?_⟩) (by assumption) ?_
       rotate_left
       ·intro w hSw; (try dsimp only at hSw); go_simp; (try with_reducible rfl)
       try simp only [Act.put,List.setIfInBounds_toArray,List.set_cons_succ,List.set_cons_zero]
       refine take_first (i:=4) (v:=?_) (some 202) rfl rfl (by kernel_rfl) (by kernel_rfl) (by kernel_rfl) (fun _ _ _ h=>h) (Or.inl ⟨by rfl,?_⟩) (by assumption) ?_
       rotate_left
       ·intro w hSw; (try dsimp only at hSw); go_simp; (try with_reducible rfl)
       try simp only [Act.put,List.setIfInBounds_toArray,List.set_cons_succ,List.set_cons_zero]
       refine take_first (i:=5) (v:=?_) (some 203) rfl rfl (by kernel_rfl) (by kernel_rfl) (by kernel_rfl) (fun _ _ _ h=>h) (Or.inl ⟨by rfl,?_⟩) (by assumption) ?_
       rotate_left
       ·intro w hSw; (try dsimp only at hSw); go_simp; (try with_reducible rfl)
       try simp only [Act.put,List.setIfInBounds_toArray,List.set_cons_succ,List.set_cons_zero]
       refine take_first (i:=6) (v:=?_) (some 204) rfl rfl (by kernel_rfl) (by kernel_rfl) (by kernel_rfl) (fun _ _ _ h=>h) (Or.inl ⟨by rfl,?_⟩) (by assumption) ?_
       rotate_left
       ·intro w hSw; (try dsimp only at hSw); go_simp; (try with_reducible rfl)
       try simp only [Act.put,List.setIfInBounds_toArray,List.set_cons_succ,List.set_cons_zero]
       refine take_first (i:=7) (v:=?_) (some 205) rfl rfl (by kernel_rfl) (by kernel_rfl) (by kernel_rfl) (fun _ _ _ h=>h) (Or.inl ⟨by rfl,?_⟩) (by assumption) ?_
       rotate_left
       ·intro w hSw; (try dsimp only at hSw); go_simp; (try with_reducible rfl)
       try simp only [Act.put,List.setIfInBounds_toArray,List.set_cons_succ,List.set_cons_zero]
       refine take_first (i:=8) (v:=?_) (some 206) rfl rfl (by kernel_rfl) (by kernel_rfl) (by kernel_rfl) (fun _ _ _ h=>h) (Or.inl ⟨by rfl,?_⟩) (by assumption) ?_
       rotate_left
       ·intro w hSw; (try dsimp only at hSw); go_simp; (try with_reducible rfl)
       try simp only [Act.put,List.setIfInBounds_toArray,List.set_cons_succ,List.set_cons_zero]
       refine take_first (i:=9) (v:=?_) (some 207) rfl rfl (by kernel_rfl) (by kernel_rfl) (by kernel_rfl) (fun _ _ _ h=>h) (Or.inl ⟨by rfl,?_⟩) (by assumption) ?_
       rotate_left
       ·intro w hSw; (try dsimp only at hSw); go_simp; (try with_reducible rfl)
       try simp only [Act.put,List.setIfInBounds_toArray,List.set_cons_succ,List.set_cons_zero]
       refine take_first (i:=10) (v:=?_) (some 208) rfl rfl (by kernel_rfl) (by kernel_rfl) (by kernel_rfl) (fun _ _ _ h=>h) (Or.inl ⟨by rfl,?_⟩) (by assumption) ?_
       rotate_left
       ·intro w hSw; (try dsimp only at hSw); go_simp; (try with_reducible rfl)
       try simp only [Act.put,List.setIfInBounds_toArray,List.set_cons_succ,List.set_cons_zero]
       refine take_first (i:=11) (v:=?_) (some 209) rfl rfl (by kernel_rfl) (by kernel_rfl) (by kernel_rfl) (fun _ _ _ h=>h) (Or.inl ⟨by rfl,?_⟩) (by assumption) ?_
       rotate_left
       ·intro w hSw; (try dsimp only at hSw); go_simp; (try with_reducible rfl)
       try simp only [Act.put,List.setIfInBounds_toArray,List.set_cons_succ,List.set_cons_zero]
       refine wpAnyH_ready (rs:=[12]) (by kernel_rfl) (by simp) ?_
       refine AllReadyH.cons rfl (fun K hK=>?_) AllReadyH.nil
       go_simp
       (with_reducible refine (RC6.out).mono ?_)
       rintro e9 w8 ⟨v8,rfl,hs8,hto⟩
       dsimp only
       clear RC6
       obtain ⟨N8,n1,n2,n3,-,-,n6,h8,V8⟩:=h7.out.turn het hto
       have x38:=h8.bx.c 3 rfl
       rw [n1,n2,n3,hs3.out,hA1.out] at x38
       obtain ⟨b1',off1',hA1',z1'⟩:=rd_at (own_slice h8.rp) (by rw [ptrN_len]; omega)
       have zp8:=z1' e.t _ (ptrN_get het)
       rw [n2,hA1.out] at hA1'
       injection hA1' with hA1'
       injection hA1' with hb1 hb2
       subst hb1 hb2
       rw [n6] at zp8
       have bx8:=V8.boxT bx7 T7 env_imm
       refine hK.out _ _ ⟨x38,zp8,bx8.c 0 rfl,bx8.c 1 rfl,bx8.c 2 rfl⟩ (fun hHeld=>?_)
       clear hK K
       refine take_first (i:=13) (v:=.tuple #[v8,.int .i64 0]) (some 197) rfl rfl (by kernel_rfl) (by kernel_rfl) (by kernel_rfl) (fun _ _ _ h=>h) (Or.inl ⟨by rfl,fun _ _=>rfl⟩) (by assumption) ?_
       try simp only [Act.put,List.setIfInBounds_toArray,List.set_cons_succ,List.set_cons_zero]
       refine take_first (i:=14) (v:=v8) (some 211) rfl rfl (by kernel_rfl) (by kernel_rfl) (by kernel_rfl) (fun _ _ _ h=>h) (Or.inl ⟨by rfl,fun _ _=>rfl⟩) (by assumption) ?_
       try simp only [Act.put,List.setIfInBounds_toArray,List.set_cons_succ,List.set_cons_zero]
       refine take_first (i:=15) (v:=.int .i64 0) (some 212) rfl rfl (by kernel_rfl) (by kernel_rfl) (by kernel_rfl) (fun _ _ _ h=>h) (Or.inl ⟨by rfl,fun _ _=>rfl⟩) (by assumption) ?_
       try simp only [Act.put,List.setIfInBounds_toArray,List.set_cons_succ,List.set_cons_zero]
       refine take_first (i:=16) (v:=v8) (some 16) rfl rfl (by kernel_rfl) (by kernel_rfl) (by kernel_rfl) (fun _ _ _ h=>h) (Or.inl ⟨by rfl,fun _ _=>rfl⟩) (by assumption) ?_
       try simp only [Act.put,List.setIfInBounds_toArray,List.set_cons_succ,List.set_cons_zero]
       refine take_first (i:=17) (v:=.int .i64 0) (some 17) rfl rfl (by kernel_rfl) (by kernel_rfl) (by kernel_rfl) (fun _ _ _ h=>h) (Or.inl ⟨by rfl,fun _ _=>rfl⟩) (by assumption) ?_
       try simp only [Act.put,List.setIfInBounds_toArray,List.set_cons_succ,List.set_cons_zero]
       refine wpAnyH_done (by kernel_rfl) ?_ _
       refine NoPanic.normal ?_
       clear hHeld x38 zp8 x37 zp7 z1' n2 n3 n6
       have hw8:=hw7.out.ev V8
       have hs8':SameN N N8:=n1.trans hs3.out
       have PO:=post_any h8 hP.out.t e.t v8 w7.heap.size out hs8 hlk.out hol
       rw [hs8'] at PO
       unfold PostPost at PO
       have q0:=bx8.c 0 rfl
       have hcs:cnt ≤ 3999:=by have:=hcnt.out; omega
       have hpl:(postE P.t.ln e.t out).length ≤ 4000:=by
        have h5:=len_mu (es ++ postE P.t.ln e.t out)
        have h6:=hcnt.out
        rw [List.length_append] at h5
        omega
       replace PO:=Lib.hid PO
       replace hs8':=Lib.hid hs8'
       replace h8:=Lib.hid h8
       replace hw8:=Lib.hid hw8
       clear h7 hw7 bx7 T7 hto V8 n1 bx8 hs8 hs3
       go_wp2_with fail
       (with_reducible refine (PO.out).mono ?_)
       rintro e w9 ⟨A9,c9,ws9,rfl,ho9,hso9,he9,hb9⟩
       clear PO q0
       have h9:=h8.out.below hb9
       have hw9:=hw8.out.below hb9
       have hl9:ws9.length = (postE P.t.ln e.t out).length:=by
        have:=congrArg List.length he9
        simpa [wxB,envB] using this
       have hl99:ws9.length ≤ 4000:=by omega
       have hsz9:=Lib.hid h9.b0.2
       have hown9:=hw9.ow
       have rd9:=own_slice ho9
       clear hl9 hpl h8 hw8
       go_wp2_with (at_builtin; refine wpList_appW0 rfl wxT (.tmp 219) (.tmp 224) rfl Bn rfl hown9 (m:=ws9.length) rfl (wxV_len ws9) rd9 (wxV_one ws9) (by simp only [maxLen]; omega) (by omega) hsz9.out ?_; intro v6 w6 ho6 hb6 hg6; obtain ⟨A6,c6,rfl,-⟩:=ho6.form)
       have h6:=Lib.hid (h9.app' hown9 hg6)
       have hw6:Hid (WvAt w6 Bn A6 c6 (r ++ ws9) (es ++ postE P.t.ln e.t out)):=by
        refine ⟨by rw [List.length_append,wxV_append]; exact ho6,fun x hx=>?_,?_⟩
        ·rcases List.mem_append.1 hx with h7 | h7
         ·exact wx_other hown9 hg6 (hw9.so x h7)
         ·exact wx_other hown9 hg6 (hso9 x h7)
        ·have a:=hw9.eq
         unfold wxB envB at a he9 ⊢
         rw [List.map_append,List.map_append,a,he9]
       have hmu9:Hid (cnt + 1 + mu (es ++ postE P.t.ln e.t out) ≤ 4000):=Lib.hid (by have:=hcnt.out; omega)
       clear ho6 hb6 hg6 rd9 hown9 hsz9 hl99 h9 hw9 hb9 he9 hso9 ho9 hcnt
       go_round
       case rel=>exact ⟨cnt + 1,N8,_,_,A6,c6,r ++ ws9,by rw [List.length_append],by go_num,hs8',h6,hw6,hnx,hmu9⟩
       case measure=>simp [intOf]; omega
    ·have elt:decide ((kk:Int) < 2 * R + P.t.n + 2) = false:=by have:=hz2.out; simp; omega
     have hkk:kk = z2:=by omega
     have hcv:Conv n S1:=hr1.out.fin (by have:=hz2.out; have:=hn.out; omega) (by omega)
     have hlo:Hid (∀ i,i < n → ∀ z:Nat,z < 2 * k → (vwD (S1 i).db 0 P.t.ln)[z]? = some (decide (z / 2 = q))):=Lib.hid (fun i hi z hz=>hr1.out.iv.lost hP.out hn.out hye.out hya.out hyb.out (by omega) hcv hi z (by rw [hm.out]; exact hz))
     have hst:=Lib.hid hr1.out.iv.st
     have NK:Hid (∀ W,Below wr.heap.size wr W → NtwAt wb.heap.size Bn wb W N1 n P.t S1):=Lib.hid (fun W hb=>h1.out.below hb)
     have hB0:Hid (Below wr.heap.size wr wr):=Lib.hid (Below.refl _ _)
     clear hkk hcv hr1 h1
     go_upto_region 33 with fail
     clear elt g0 g2
     obtain ⟨wx,hwx⟩:∃ W,wr = W:=⟨_,rfl⟩
     have hB0:Hid (Below wx.heap.size wx wr):=by rw [← hwx]; exact hB0
     rw [hwx] at NK
     clear hwx
     go_wp2_with fail
     go_loopw [18] (fun v18 wr=>∃ (i:Nat),v18 = .int .i64 i ∧ i ≤ n ∧ Hid (Below wx.heap.size wx wr)) (fun v18 _=>n - (intOf v18).toNat)
     case atStart=>exact ⟨0,rfl,by omega,hB0⟩
     case round =>
      clear hB0
      obtain ⟨i,rfl,hi,hB⟩:=hrel
      have NA:=NK.out _ hB.out
      obtain ⟨b1,off1,x3,xi⟩:=NA.row (by omega)
      have hs1':=hs1.out
      unfold SameN at hs1'
      rw [hs1'] at x3
      by_cases hin:i < n
      ·have zi:=xi i hin
       have VW:=spView_any wr (N1.M i) (S1 i) N1.col (i + 1) (NA.sp i hin) (hst.out i hin).ok
       unfold SViewPost at VW
       rw [(hst.out i hin).tp,hm.out] at VW
       have hL:=hlo.out i hin
       have hLl:(vwD (S1 i).db 0 P.t.ln).length = 2 * k:=by rw [vwD_len,hm.out]
       obtain ⟨kd,hkd⟩:∃ kd,2 * k = kd:=⟨_,rfl⟩
       rw [hkd] at VW hL hLl
       have hkd9:kd ≤ 16:=by omega
       replace hkd:=Lib.hid hkd
       replace hL:=Lib.hid hL
       replace hLl:=Lib.hid hLl
       generalize vwD (S1 i).db 0 P.t.ln = dl at *
       replace VW:=Lib.hid VW
       clear NA xi hs1'
       go_wp2_with fail
       (with_reducible refine (VW.out).mono ?_)
       rintro e w3 ⟨v,D,cD,rfl,hTv,hD,hb3⟩
       clear VW x3 zi
       obtain ⟨A',c1,B',d1,rfl,-,-,-⟩:=hTv
       generalize (vwT (S1 i).db P.t).n = tn at *
       generalize (vwT (S1 i).db P.t).ov.length = to9 at *
       generalize (vwT (S1 i).db P.t).ln.length = tl at *
       have hb4:=hb3.trans ((below_new' w3 (.cells #[.int .i64 tn,.slice A' to9 c1,.slice B' tl d1] 25)).mono hb3.size)
       have hD4:=Lib.hid (hD.below (below_new' w3 (.cells #[.int .i64 tn,.slice A' to9 c1,.slice B' tl d1] 25)))
       go_upto_region 37 with fail
       generalize World.alloc w3 _ = w4 at *
       have hB4:=Lib.hid (hB.out.trans (hb4.mono hB.out.size))
       have SK:=SB.out.call (NK.out w4 hB4.out).bel
       have g2:=SK.c 1 2 rfl rfl
       have e7:((kd:Int) != 2 * (k:Int)) = false:=by have:=hkd.out; simp; omega
       clear SK hb3 hD hb4 hB
       go_upto_region 39 with fail
       clear g2 e7
       go_wp2_with fail
       go_loopw [21] (fun v21 wr=>∃ (a:Nat),v21 = .int .i64 a ∧ a ≤ kd ∧ Hid (Below wx.heap.size wx wr) ∧ Hid (Rd wr D (boV dl))) (fun v21 _=>kd - (intOf v21).toNat)
       case atStart=>exact ⟨0,rfl,by omega,hB4,hD4⟩
       case round =>
        clear hB4 hD4
        obtain ⟨a,rfl,ha,hB,hD⟩:=hrel
        by_cases hak:a < kd
        ·have hal:a < dl.length:=by rw [hLl.out]; exact hak
         have hv:=hL.out a hak
         rw [List.getElem?_eq_getElem hal] at hv
         injection hv with hv
         obtain ⟨pd,offd,rfl,hc⟩:=rd_bo hD.out (by omega)
         have x0:=hc a hal
         rw [hv] at x0
         have e8:(a:Int).tdiv 2 = ((a / 2:Nat):Int):=by rw [Int.tdiv_eq_ediv_of_nonneg (by omega)]; omega
         clear hc hv
         have hj9:a / 2 ≤ 16:=by omega
         generalize a / 2 = j at *
         by_cases hj:j = q
         ·have e9:((j:Int) == (q:Int)) = true:=by simp [hj]
          rw [decide_eq_true hj] at x0
          clear hj
          go_wp2_with fail
          go_round
          case rel=>exact ⟨a + 1,by go_num,by omega,hB,hD⟩
          case measure=>simp [intOf]; omega
         ·have e9:((j:Int) == (q:Int)) = false:=by simp; omega
          rw [decide_eq_false hj] at x0
          clear hj
          go_wp2_with fail
          go_round
          case rel=>exact ⟨a + 1,by go_num,by omega,hB,hD⟩
          case measure=>simp [intOf]; omega
        ·obtain rfl:kd = a:=by omega
         clear hD
         go_wp2_with fail
         go_round
         case rel=>exact ⟨i + 1,by go_num,by omega,hB⟩
         case measure=>simp [intOf]; omega
      ·obtain rfl:n = i:=by omega
       have hfin:=hbx.out.trans (NA.bel.mono hbx.out.size)
       clear NA xi
       go_wp2_with fail
       go_ret
       exact ⟨rfl,hfin⟩
end Go.Proofs.YtehimhbgakpenaaGreat

namespace Go.Proofs.YtehimhbgakpenaaGreat.speakerWithdraws
open Go.ChangeShapes Go.WideShapes Go.ChangeAt Go.RowKit
set_option linter.unusedVariables false
set_option linter.unusedSimpArgs false
set_option maxRecDepth 100000 in
theorem lifted (os:Os) (started:os.Started) (H:Type) (enc:TypeId × Value → H) :
  ReturnsInHanded {} Tryz.checked os 4 .any (Rows.speakerWithdrawsSpec.pre6 enc Tryz.prog Tryz.f4 Rows.speakerWithdrawsRow.domain false) (Rows.speakerWithdrawsSpec.post enc Tryz.prog Tryz.f4 false true false false):=by
 refine returnsInHanded_of_change (C:=Tryz.checked) frame_own started (by kernel_rfl) Tryz.func4
  (ChangeSpec.witness6 (enc:=enc) (C:=Tryz.checked) false ⟨#[],#[.agg #[.int .i64 0,.slice none 0 0,.slice none 0 0],.agg #[.int .i64 0,.int .i64 0,.int .i64 0],.int .u8 0],[]⟩ 8 (by kernel_rfl) (by kernel_rfl) (by kernel_rfl) (by kernel_rfl)) ?_
 intro W base args ds gs before hval0 hW hcnd _
 have hval:∀ (j:Nat) t v,Tryz.f4.params[j]? = some t → args[j]? = some v → Value.okWide Tryz.prog W .any base t v:=hval0
 have hW':=hW
 obtain ⟨p,q,hA0,hV,rfl,hfz,hnd⟩:=hW
 have hA:DataW.TrodAll enc Tryz.prog W 0 (fun _=>true) true Tryz.f4.params.toList args.toList ds p:=hA0
 rw [Tryz.params4] at hA hval
 obtain ⟨v0,vs0,d0,ds0,p0',q0',hargs,rfl,rfl,h0,r0⟩:=trodAll_cons hA
 obtain ⟨v1,vs1,d1,ds1,p1',q1',rfl,rfl,rfl,h1,r1⟩:=trodAll_cons r0
 obtain ⟨v2,vs2,d2,ds2,p2',q2',rfl,rfl,rfl,h2,r2⟩:=trodAll_cons r1
 obtain ⟨rfl,rfl,rfl⟩:=trodAll_nil r2
 obtain rfl:args = #[v0,v1,v2]:=by cases args; simp_all
 obtain ⟨rfl,rfl⟩:=trodVars_none hV
 have k0:=h0
 have lt0:∀ x ∈ p0',x.block < W.heap.size:=by obtain ⟨m,hm⟩:=k0; exact DataW.trod_lt m _ _ _ hm
 have k1:=h1
 have lt1:∀ x ∈ p1',x.block < W.heap.size:=by obtain ⟨m,hm⟩:=k1; exact DataW.trod_lt m _ _ _ hm
 have k2:=h2
 have lt2:∀ x ∈ p2',x.block < W.heap.size:=by obtain ⟨m,hm⟩:=k2; exact DataW.trod_lt m _ _ _ hm
 obtain ⟨x0,hx0⟩:=arg_tp (hval 0 25 v0 rfl rfl) h0
 obtain ⟨x1,y1,u1,rfl⟩:=arg_tm (hval 1 27 v1 rfl rfl) h1
 obtain ⟨z2,rfl,_,_,hz2⟩:=open_int Tryz.underlying5 (hval 2 5 v2 rfl rfl) h2
 clear hA0 hval0
 refine (withdraws_law W v0 x0 hx0 x1 y1 u1 z2 hz2).mono fun e W' ⟨he,bel⟩=>?_
 subst he
 exact ⟨_,rfl,_,_,_,[],_,[],hW',trodAll_mk1 (shut_bool Tryz.underlying4 _),(trodAll_cons_mk (Below.trod frame_laidOut (by kernel_rfl) (of_decide_eq_true (by kernel_rfl)) k0 bel lt0) (trodAll_cons_mk (Below.trod frame_laidOut (by kernel_rfl) (of_decide_eq_true (by kernel_rfl)) k1 bel lt1) (trodAll_cons_mk (Below.trod frame_laidOut (by kernel_rfl) (of_decide_eq_true (by kernel_rfl)) k2 bel lt2) trodAll_mk0))),rfl,bel.frame _,fun h=>by cases h⟩
theorem over:Rows.speakerWithdrawsRow.holds Tryz.pinned (OpenSpec.ofChange Rows.speakerWithdrawsSpec) :=
 OpenClaim.holds_of_wide 4 Tryz.f4 rfl rfl rfl rfl rfl rfl rfl ⟨rfl,rfl,rfl,rfl,rfl⟩ rfl rfl rfl rfl rfl (by kernel_rfl) Tryz.func4 (by kernel_rfl)
  (of_decide_eq_true (by kernel_rfl)) (by unfold Func.isWrapper; first | (rw [if_pos (by decide +kernel)]; kernel_rfl) | (rw [if_neg (by decide +kernel)]; exact ⟨rfl,rfl⟩))
  (fun os started H enc _=>lifted os started H enc)
theorem proved:Rows.SpeakerWithdrawsSaid:=over
#print axioms proved
end Go.Proofs.YtehimhbgakpenaaGreat.speakerWithdraws
