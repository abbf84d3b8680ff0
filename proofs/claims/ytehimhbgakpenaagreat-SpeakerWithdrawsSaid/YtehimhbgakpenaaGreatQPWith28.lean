/-
  The texts TpR, one after the other.
-/
import Derived.Test.YtehimhbgakpenaaGreatQPWith7
import Derived.Deep.DeepCutAuto
import Derived.Deep.CutBlock
namespace Go.Proofs.YtehimhbgakpenaaGreat
set_option linter.unusedVariables false
open Go.RowKit Go.Sort
set_option maxRecDepth 100000 in
set_option maxHeartbeats 6400000 in
theorem rtvalid_any (w:World) (v:Value) (t:Tp) (h:TpAt w v t):Calls Tryz.prog 28 #[v] w fun e w'=>e = .returned (.bool (tB t)) ∧ Below w.heap.size w w':=by
 obtain ⟨A,c,B,d,rfl,rA,rB,h1,h2⟩:=h
 have S:=((St.start w).read rB).new' #[.int .i64 t.n,.slice A t.ov.length c,.slice B t.ln.length d] 25 w.heap.size _ rfl rfl
 clear rA rB
 have hres:Hid (∀ b,(b = true → TpOk t) → (b = false → ¬ TpOk t) → b = tB t):=fun b h1 h2=>by
  cases b with
  | true=>exact (tB_t (h1 rfl)).symm
  | false=>exact (tB_f (h2 rfl)).symm
 obtain ⟨n,hn⟩:∃ n,t.n = n:=⟨_,rfl⟩
 obtain ⟨k,hk⟩:∃ k,t.ov.length = k:=⟨_,rfl⟩
 obtain ⟨m,hm⟩:∃ m,t.ln.length = m:=⟨_,rfl⟩
 obtain ⟨l,hl⟩:∃ l,t.ln = l:=⟨_,rfl⟩
 have hml:l.length = m:=by rw [← hl,hm]
 rw [hn,hk,hm,hl] at S
 rw [hm] at h2
 rw [hk] at h1
 unfold maxLen at h1 h2
 simp only [hn,hk,hm]
 replace hn:=Lib.hid hn
 replace hk:=Lib.hid hk
 replace hm:=Lib.hid hm
 replace hl:=Lib.hid hl
 replace hml:=Lib.hid hml
 obtain ⟨tb,htb⟩:∃ z,tB t = z:=⟨_,rfl⟩
 rw [htb] at hres ⊢
 clear htb
 have c0:=S.c 0 0 rfl rfl
 have c1:=S.c 0 1 rfl rfl
 have c2:=S.c 0 2 rfl rfl
 go_enter Tryz.func28,Tryz.ntmps28
 go_wp2_with fail
 (with_reducible refine (rtwithin_any _ _ _ _).mono ?_)
 rintro e w1 ⟨rfl,rfl⟩
 rcases hw1:wiB n 1 64 with _ | _
 ·have:=wiB_f hw1
  obtain rfl:=hres.out false (fun h=>by cases h) (fun _ h=>by have h5:=h.n; rw [hn.out] at h5; omega)
  go_wp2_with fail
  go_ret
  exact ⟨rfl,S.b⟩
 replace hw1:=Lib.hid (wiB_t hw1)
 by_cases hk0:k = 0 ∨ (k:Int) = n
 rotate_left
 ·obtain rfl:=hres.out false (fun h=>by cases h) (fun _ h=>by have:=h.ov; rw [hk.out,hn.out] at this; exact hk0 this)
  have hk1:k ≠ 0:=fun h=>hk0 (.inl h)
  have hk2:(k:Int) ≠ n:=fun h=>hk0 (.inr h)
  have e1:((k:Int) != 0) = true:=by simp; omega
  have e2:((k:Int) != n) = true:=by simp; exact hk2
  clear hk0 hk1 hk2
  go_wp2_with fail
  go_ret
  exact ⟨rfl,S.b⟩
 have hcut:(k:Int) = 0 ∨ ((k:Int) ≠ 0 ∧ (k:Int) = n):=by omega
 have hT:Hid (∀ j (hj:j < l.length),j < 0 → LkOk n l[j]):=fun j hj h=>absurd h (by omega)
 generalize World.alloc w _ = w1 at *
 have hq:((k:Int) != 0) = false ∨ (((k:Int) != 0) = true ∧ ((k:Int) != n) = false):=by
  rcases hcut with e | ⟨e1,e2⟩
  ·left; simp; omega
  ·right; constructor
   ·simp; omega
   ·simp; omega
 clear hcut
 rcases hq with e1 | ⟨e1,e3⟩
 all_goals
  by_cases hl1:256 < m
  ·obtain rfl:=hres.out false (fun h=>by cases h) (fun _ h=>by have:=h.ln; rw [hm.out] at this; omega)
   go_wp2_with fail
   go_ret
   exact ⟨rfl,S.b⟩
  have hgo:Hid (∀ b,(b = true → ∀ x ∈ l,LkOk n x) → (b = false → ¬ ∀ x ∈ l,LkOk n x) → b = tb):=fun b h1 h2=>hres.out b
   (fun h=>⟨by rw [hn.out]; exact hw1.out,by rw [hk.out,hn.out]; exact hk0,by rw [hm.out]; omega,by rw [hl.out,hn.out]; exact h1 h⟩)
   (fun h h3=>h2 h (by have:=h3.all; rwa [hl.out,hn.out] at this))
  clear hres hn hk hm hl h1 h2 hk0
  go_wp2_with fail
  clear e1
  go_loopw [3] (fun v30 wr=>∃ i:Nat,v30 = .int .i64 i ∧ i ≤ m ∧ Hid (∀ j (hj:j < l.length),j < i → LkOk n l[j]) ∧ St w wr [(w.heap.size,[.int .i64 n,.slice A k c,.slice B m d])] [(B,lksV l)]) (fun v30 _=>m - (intOf v30).toNat)
  case atStart=>exact ⟨0,rfl,by omega,hT,S⟩
  case round =>
   clear S hT
   obtain ⟨i,rfl,hi,hT,S⟩:=hrel
   clear c0 c1 c2
   by_cases him:i < m
   ·have hil:i < l.length:=by have:=hml.out; omega
    obtain ⟨b,off,rfl,hc⟩:=rd_lk (S.r 0 rfl) (by omega)
    have hT2:Hid (LkOk n l[i] → ∀ j (hj:j < l.length),j < i + 1 → LkOk n l[j]):=fun h j hj hji=>by
     by_cases e:j = i
     ·subst e; exact h
     ·exact hT.out j hj (by omega)
    have hbad:Hid (¬ LkOk n l[i] → false = tb):=fun h=>hgo.out false (fun h=>by cases h) (fun _ h2=>h (h2 _ (List.getElem_mem hil)))
    have hcw:=fun W (h:Rd W (some ⟨b,off,none⟩) (lksV l))=>h
    obtain ⟨x,hx⟩:∃ x,l[i] = x:=⟨_,rfl⟩
    have hcc:∀ W,Rd W (some ⟨b,off,none⟩) (lksV l) → LkC W b (off + i * 7) x:=fun W h=>by
     obtain ⟨b',off',e,hc'⟩:=rd_lk h (by omega)
     simp only [Option.some.injEq,Addr.mk.injEq,and_true] at e
     obtain ⟨rfl,rfl⟩:=e
     have:=hc' i hil
     rwa [hx] at this
    rw [hx] at hT2 hbad
    clear hc hcw hx hT
    obtain ⟨xa,xb,xc,xd,xcap,xdel,xgrp⟩:=x
    replace hcc:=Lib.hid hcc
    have c0:=S.c 0 0 rfl rfl
    have c1:=S.c 0 1 rfl rfl
    have c2:=S.c 0 2 rfl rfl
    obtain ⟨x0,x1,x2,x3,x3',x4,x5,x6⟩:=hcc.out _ (S.r 0 rfl)
    simp only at x0 x1 x2 x3 x3' x4 x5 x6
    have hwr:IntKind.i64.wrap (n - 1) = n - 1:=IntWalk.i64_in _ (by have:=hw1.out; omega)
    go_upto_region 7 with fail
    replace S:=S.new' #[.int .i64 xa,.int .i64 xb,.int .i64 xc,.int .i64 xd,.int .i64 xcap,.int .i64 xdel,.int .i64 xgrp] 79 wr.heap.size _ rfl rfl
    clear x0 x1 x2 x3 x3' x4 x5 x6 c0 c1 c2
    generalize World.alloc wr _ = w4 at *
    generalize wr.heap.size = g4 at *
    have d0:=S.c 0 0 rfl rfl
    have d1:=S.c 0 1 rfl rfl
    have d2:=S.c 0 2 rfl rfl
    have d3:=S.c 0 3 rfl rfl
    have d4:=S.c 0 4 rfl rfl
    have d5:=S.c 0 5 rfl rfl
    have d6:=S.c 0 6 rfl rfl
    have c0:=S.c 1 0 rfl rfl
    have c1:=S.c 1 1 rfl rfl
    have c2:=S.c 1 2 rfl rfl
    go_wp2_with fail
    (with_reducible refine (rtwithin_any _ _ _ _).mono ?_)
    rintro e w5 ⟨rfl,rfl⟩
    rcases hv6:wiB xa 0 (n - 1) with _ | _
    ·have h9:=wiB_f hv6
     obtain rfl:=hbad.out (fun h=>by have:=h.a; simp only at this; omega)
     go_wp2_with fail
     go_ret
     exact ⟨rfl,S.b⟩
    replace hv6:=Lib.hid (wiB_t hv6)
    go_wp2_with fail
    (with_reducible refine (rtwithin_any _ _ _ _).mono ?_)
    rintro e w5 ⟨rfl,rfl⟩
    rcases hv7:wiB xb 0 (n - 1) with _ | _
    ·have h9:=wiB_f hv7
     obtain rfl:=hbad.out (fun h=>by have:=h.b; simp only at this; omega)
     go_wp2_with fail
     go_ret
     exact ⟨rfl,S.b⟩
    replace hv7:=Lib.hid (wiB_t hv7)
    by_cases hab:xa = xb
    ·subst hab
     obtain rfl:=hbad.out (fun h=>h.ne rfl)
     go_wp2_with fail
     go_ret
     exact ⟨rfl,S.b⟩
    have e1:(xa == xb) = false:=by simp [hab]
    replace hab:=Lib.hid hab
    go_wp2_with fail
    clear e1
    (with_reducible refine (rtwithin_any _ _ _ _).mono ?_)
    rintro e w5 ⟨rfl,rfl⟩
    rcases hv1:wiB xc 1 65535 with _ | _
    ·have h9:=wiB_f hv1
     obtain rfl:=hbad.out (fun h=>by have:=h.c; simp only at this; omega)
     go_wp2_with fail
     go_ret
     exact ⟨rfl,S.b⟩
    replace hv1:=Lib.hid (wiB_t hv1)
    go_wp2_with fail
    (with_reducible refine (rtwithin_any _ _ _ _).mono ?_)
    rintro e w5 ⟨rfl,rfl⟩
    rcases hv2:wiB xd 1 65535 with _ | _
    ·have h9:=wiB_f hv2
     obtain rfl:=hbad.out (fun h=>by have:=h.d; simp only at this; omega)
     go_wp2_with fail
     go_ret
     exact ⟨rfl,S.b⟩
    replace hv2:=Lib.hid (wiB_t hv2)
    go_wp2_with fail
    (with_reducible refine (rtwithin_any _ _ _ _).mono ?_)
    rintro e w5 ⟨rfl,rfl⟩
    rcases hv3:wiB xcap 0 1048576 with _ | _
    ·have h9:=wiB_f hv3
     obtain rfl:=hbad.out (fun h=>by have:=h.cap; simp only at this; omega)
     go_wp2_with fail
     go_ret
     exact ⟨rfl,S.b⟩
    replace hv3:=Lib.hid (wiB_t hv3)
    go_wp2_with fail
    (with_reducible refine (rtwithin_any _ _ _ _).mono ?_)
    rintro e w5 ⟨rfl,rfl⟩
    rcases hv4:wiB xdel 1 65536 with _ | _
    ·have h9:=wiB_f hv4
     obtain rfl:=hbad.out (fun h=>by have:=h.del; simp only at this; omega)
     go_wp2_with fail
     go_ret
     exact ⟨rfl,S.b⟩
    replace hv4:=Lib.hid (wiB_t hv4)
    go_wp2_with fail
    (with_reducible refine (rtwithin_any _ _ _ _).mono ?_)
    rintro e w5 ⟨rfl,rfl⟩
    rcases hv5:wiB xgrp 0 64 with _ | _
    ·have h9:=wiB_f hv5
     obtain rfl:=hbad.out (fun h=>by have:=h.grp; simp only at this; omega)
     go_wp2_with fail
     go_ret
     exact ⟨rfl,S.b⟩
    replace hv5:=Lib.hid (wiB_t hv5)
    go_wp2_with fail
    go_round
    case rel=>exact ⟨i + 1,by go_num,by omega,hT2.out ⟨by have:=hv6.out; simp only; omega,by have:=hv7.out; simp only; omega,hab.out,hv1.out,hv2.out,hv3.out,hv4.out,hv5.out⟩,S.keepBoxes _ (by simp)⟩
    case measure=>simp [intOf]; omega
   ·obtain rfl:i = m:=by omega
    obtain rfl:=hgo.out true (fun _ x hx=>by
     obtain ⟨j,hj,rfl⟩:=List.getElem_of_mem hx
     exact hT.out j hj (by have:=hml.out; omega)) (fun h=>by cases h)
    have c0:=S.c 0 0 rfl rfl
    have c1:=S.c 0 1 rfl rfl
    have c2:=S.c 0 2 rfl rfl
    go_wp2_with fail
    go_ret
    exact ⟨rfl,S.b⟩
end Go.Proofs.YtehimhbgakpenaaGreat
