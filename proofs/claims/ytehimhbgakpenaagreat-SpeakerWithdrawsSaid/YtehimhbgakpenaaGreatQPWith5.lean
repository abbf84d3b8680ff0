/-
  The texts ValW, Take, LaArg, one after the other.
-/
import Derived.Test.YtehimhbgakpenaaGreatQPWith1
import Derived.OpenShut
import Derived.Lib.QuietBelow
import Derived.Test.YtehimhbgakpenaaGreatQPWith4
import Derived.Test.YtehimhbgakpenaaGreatQPWith0
namespace Go.Proofs.YtehimhbgakpenaaGreat
set_option linter.unusedVariables false
open Go.RowKit Go.Sort
abbrev laV (o s a:Int) (ov:Bool) (A:Option Addr) (n c:Nat) (B:Option Addr) (m d:Nat):Value:=.agg #[.int .i64 o,.int .i64 s,.int .i64 a,.bool ov,.slice A n c,.slice B m d]
abbrev laB (o s a:Int) (ov:Bool) (A:Option Addr) (n c:Nat) (B:Option Addr) (m d:Nat):Obj:=.cells #[.int .i64 o,.int .i64 s,.int .i64 a,.bool ov,.slice A n c,.slice B m d] 41
set_option maxRecDepth 100000 in
set_option maxHeartbeats 3200000 in
theorem valid_any (o s a:Int) (ov:Bool) (adj:List Ad) (pre:List Pf) (A:Option Addr) (n c:Nat) (B:Option Addr) (m d:Nat) (w:World) (hn:adj.length = n) (hm:pre.length = m) (hA:Rd w A (adV adj)) (hB:Rd w B (pfV pre)) (hu:∀ x ∈ pre,x.1 < 4294967296) :
  Calls Tryz.prog 126 #[laV o s a ov A n c B m d] w fun e w'=>e = .returned (.bool (vB ⟨o,s,a,ov,adj,pre⟩)) ∧ Below w.heap.size w w':=by
 have hbb:=below_new' w (laB o s a ov A n c B m d)
 have S:=Box.new w #[.int .i64 o,.int .i64 s,.int .i64 a,.bool ov,.slice A n c,.slice B m d] 41
 have c0:=S.c 0 rfl
 have c1:=S.c 1 rfl
 have c2:=S.c 2 rfl
 have c3:=S.c 3 rfl
 have c4:=S.c 4 rfl
 have c5:=S.c 5 rfl
 replace hu:=Lib.hid hu
 go_enter Tryz.func126,Tryz.ntmps126
 go_wp2_with fail
 (with_reducible refine (within_any _ _ _ _).mono ?_)
 rintro e w1 ⟨rfl,rfl⟩
 rcases hw1:wiB o 0 63 with _ | _
 ·have:=wiB_f hw1
  go_wp2_with fail
  go_ret
  exact ⟨ret_bool (vB_f (fun h=>by have:=h.1; simp only at this; omega)).symm,hbb⟩
 replace hw1:=Lib.hid (wiB_t hw1)
 go_wp2_with fail
 (with_reducible refine (within_any _ _ _ _).mono ?_)
 rintro e w1 ⟨rfl,rfl⟩
 rcases hw2:wiB s 1 1073741824 with _ | _
 ·have:=wiB_f hw2
  go_wp2_with fail
  go_ret
  exact ⟨ret_bool (vB_f (fun h=>by have:=h.2.1; simp only at this; omega)).symm,hbb⟩
 replace hw2:=Lib.hid (wiB_t hw2)
 go_wp2_with fail
 (with_reducible refine (within_any _ _ _ _).mono ?_)
 rintro e w1 ⟨rfl,rfl⟩
 rcases hw3:wiB a 0 3600 with _ | _
 ·have:=wiB_f hw3
  go_wp2_with fail
  go_ret
  exact ⟨ret_bool (vB_f (fun h=>by have:=h.2.2.1; simp only at this; omega)).symm,hbb⟩
 replace hw3:=Lib.hid (wiB_t hw3)
 by_cases hl1:256 < n
 ·go_wp2_with fail
  go_ret
  exact ⟨ret_bool (vB_f (fun h=>by have:=h.2.2.2.1; simp only at this; omega)).symm,hbb⟩
 by_cases hl2:64 < m
 ·go_wp2_with fail
  go_ret
  exact ⟨ret_bool (vB_f (fun h=>by have:=h.2.2.2.2.1; simp only at this; omega)).symm,hbb⟩
 by_cases hb:a = 3600 ∧ (ov = true ∨ 0 < n ∨ 0 < m)
 ·have hz:vB ⟨o,s,a,ov,adj,pre⟩ = false:=vB_f (fun h=>by
   obtain ⟨e1,e2,e3⟩:=h.2.2.2.2.2.1 hb.1
   simp only at e1 e2 e3
   subst e2 e3
   rcases hb.2 with e | e | e
   ·rw [e] at e1; cases e1
   ·simp at hn; omega
   ·simp at hm; omega)
  obtain ⟨rfl,hb⟩:=hb
  rcases hb with rfl | hb | hb
  ·go_wp2_with fail
   all_goals go_ret
   all_goals exact ⟨ret_bool hz.symm,below_new' w _⟩
  ·go_wp2_with fail
   all_goals go_ret
   all_goals exact ⟨ret_bool hz.symm,below_new' w _⟩
  ·go_wp2_with fail
   all_goals go_ret
   all_goals exact ⟨ret_bool hz.symm,below_new' w _⟩
 have hP:a = 3600 → ov = false ∧ adj = [] ∧ pre = []:=by
  intro e
  refine ⟨?_,?_,?_⟩
  ·cases ov with
   | false=>rfl
   | true=>exact absurd ⟨e,.inl rfl⟩ hb
  ·exact List.eq_nil_of_length_eq_zero ((Nat.eq_zero_or_pos n).elim (fun h=>by omega) (fun h=>absurd ⟨e,.inr (.inl h)⟩ hb))
  ·exact List.eq_nil_of_length_eq_zero ((Nat.eq_zero_or_pos m).elim (fun h=>by omega) (fun h=>absurd ⟨e,.inr (.inr h)⟩ hb))
 have hL:Hid (∀ b,(b = true → AdGood o adj n ∧ PfGood pre m) → (b = false → ¬ (AdGood o adj n ∧ PfGood pre m)) → b = vB ⟨o,s,a,ov,adj,pre⟩):=by
  intro b h1 h2
  cases b with
  | true=>exact (vB_t ⟨hw1.out,hw2.out,hw3.out,by simp only; omega,by simp only; omega,hP,by simp only; rw [hn]; exact (h1 rfl).1,by simp only; rw [hm]; exact (h1 rfl).2⟩).symm
  | false=>exact (vB_f (fun h=>h2 rfl (by
    obtain ⟨_,_,_,_,_,_,e1,e2⟩:=h
    simp only [hn,hm] at e1 e2
    exact ⟨e1,e2⟩))).symm
 replace hP:=Lib.hid hP
 have hC:(a ≠ 3600) ∨ (a = 3600 ∧ ov = false ∧ n = 0 ∧ m = 0):=by
  by_cases e:a = 3600
  ·obtain ⟨e1,rfl,rfl⟩:=hP.out e
   exact .inr ⟨e,e1,by simpa using hn.symm,by simpa using hm.symm⟩
  ·exact .inl e
 clear hw2 hw3 hb hP hw1
 have S0:St w (w.alloc (laB o s a ov A n c B m d)) [(w.heap.size,[.int .i64 o,.int .i64 s,.int .i64 a,.bool ov,.slice A n c,.slice B m d])] [(A,adV adj),(B,pfV pre)]:=((((St.start w).read hB).read hA).new #[.int .i64 o,.int .i64 s,.int .i64 a,.bool ov,.slice A n c,.slice B m d] 41)
 clear S hbb
 rcases hC with e36 | ⟨e36,hov,hn0,hm0⟩
 rotate_left
 ·subst e36 hov hn0 hm0
  have hr:vB ⟨o,s,3600,false,adj,pre⟩ = true:=(hL.out true (fun _=>⟨fun k x hk=>absurd hk (by omega),fun k x hk=>absurd hk (by omega)⟩) (fun h=>by cases h)).symm
  clear hL
  go_wp2_with fail
  go_loop [55] (fun v55=>v55 = .int .i64 0) (fun v55=>0)
  case atStart=>rfl
  case round =>
   obtain rfl:=hrel
   go_wp2_with fail
   go_loop [101] (fun v101=>v101 = .int .i64 0) (fun v101=>0)
   case atStart=>rfl
   case round =>
    obtain rfl:=hrel
    go_wp2_with fail
    go_ret
    exact ⟨rfl,below_new' w _⟩
 go_wp2_with fail
 generalize w.alloc (.cells #[.int .i64 o,.int .i64 s,.int .i64 a,.bool ov,.slice A n c,.slice B m d] 41) = w1 at *
 clear c0 c1 c2 c3 c4 c5
 go_loopw [55] (fun v55 wr=>∃ k:Nat,v55 = .int .i64 k ∧ k ≤ n ∧ Hid (AdGood o adj k) ∧ St w wr [(w.heap.size,[.int .i64 o,.int .i64 s,.int .i64 a,.bool ov,.slice A n c,.slice B m d])] [(A,adV adj),(B,pfV pre)]) (fun v55 _=>n - (intOf v55).toNat)
 case atStart=>exact ⟨0,rfl,by omega,fun k x hk=>absurd hk (by omega),S0⟩
 case round =>
  obtain ⟨k,rfl,hk,hgood,S⟩:=hrel
  clear S0 hA hB
  by_cases hkn:k < n
  ·obtain ⟨b,off,rfl,hcells⟩:=rd_ad (S.r 0 rfl) (by omega)
   have c4:=S.c 0 4 rfl rfl
   obtain ⟨x0,x1,x2⟩:=hcells k (by omega)
   obtain ⟨x,hx⟩:∃ x,adj[k]'(by omega) = x:=⟨_,rfl⟩
   rw [hx] at x0 x1 x2
   have hx':adj[k]? = some x:=by rw [List.getElem?_eq_getElem (by omega),hx]
   have hbad:Hid (¬ ((0 ≤ x.2.1 ∧ x.2.1 ≤ 255) ∧ x.1 ≠ o ∧ (0 ≤ x.1 ∧ x.1 ≤ 63) ∧ (1 ≤ x.2.2 ∧ x.2.2 ≤ 65535) ∧ (∀ y,0 < k → adj[k - 1]? = some y → y.2.1 < x.2.1)) → false = vB ⟨o,s,a,ov,adj,pre⟩):=fun h=>hL.out false (fun e=>by cases e) (fun _ e=>h (e.1 k x hkn hx'))
   have hgo:Hid ((0 ≤ x.2.1 ∧ x.2.1 ≤ 255) ∧ x.1 ≠ o ∧ (0 ≤ x.1 ∧ x.1 ≤ 63) ∧ (1 ≤ x.2.2 ∧ x.2.2 ≤ 65535) ∧ (∀ y,0 < k → adj[k - 1]? = some y → y.2.1 < x.2.1) → AdGood o adj (k + 1)):=fun h=>hgood.out.snoc hx' h.1 h.2.1 h.2.2.1 h.2.2.2.1 h.2.2.2.2
   clear hgood
   go_wp2_with fail
   have S2:=S.new #[.int .i64 x.1,.int .i64 x.2.1,.int .i64 x.2.2] 169
   have hbw:=below_new' wr (.cells #[.int .i64 x.1,.int .i64 x.2.1,.int .i64 x.2.2] 169)
   clear c4 x0 x1 x2
   generalize wr.alloc (.cells #[.int .i64 x.1,.int .i64 x.2.1,.int .i64 x.2.2] 169) = w2 at *
   generalize hg2:wr.heap.size = g2 at S2 ⊢
   have d0:=S2.c 0 0 rfl rfl
   have d1:=S2.c 0 1 rfl rfl
   have d2:=S2.c 0 2 rfl rfl
   have c4:=S2.c 1 4 rfl rfl
   have c0:=S2.c 1 0 rfl rfl
   have W1:Hid (∀ W,Calls Tryz.prog 170 #[.int .i64 x.2.1,.int .i64 0,.int .i64 255] W fun e w'=>e = .returned (.bool (wiB x.2.1 0 255)) ∧ W = w'):=fun W=>within_any x.2.1 0 255 W
   obtain ⟨b1,hb1⟩:∃ b1,wiB x.2.1 0 255 = b1:=⟨_,rfl⟩
   rw [hb1] at W1
   rcases Nat.eq_zero_or_pos k with hk0 | hkp
   ·have hd:decide ((0:Int) < (k:Int)) = false:=by simp [hk0]
    have hbef:∀ y,0 < k → adj[k - 1]? = some y → y.2.1 < x.2.1:=fun y h=>absurd h (by omega)
    cases b1 with
    | false =>
      go_quiet ((go_at_call 170; exact quietL (W1.out _)))
      go_wp2_with fail
      go_ret
      exact ⟨ret_bool (hbad.out (fun h=>by have:=wiB_f hb1; omega)),below_drewN S2.b nq⟩
    | true =>
      go_quiet ((go_at_call 170; exact quietL (W1.out _)))
      have S3:=S2.drewN nq
      clear d0 d1 d2 c4 c0
      have d0:=S3.c 0 0 rfl rfl
      have d2:=S3.c 0 2 rfl rfl
      have c0:=S3.c 1 0 rfl rfl
      clear S2
      generalize w2.drewN nq = w3 at *
      replace hb1:=wiB_t hb1
      by_cases hto:x.1 = o
      ·go_wp2_with fail
       go_ret
       exact ⟨ret_bool (hbad.out (fun h=>h.2.1 hto)),S3.b⟩
      go_wp2_with fail
      (with_reducible refine (within_any _ _ _ _).mono ?_)
      rintro e w4 ⟨rfl,rfl⟩
      rcases hb2:wiB x.1 0 63 with _ | _
      ·have:=wiB_f hb2
       go_wp2_with fail
       go_ret
       exact ⟨ret_bool (hbad.out (fun h=>by have:=h.2.2.1; omega)),S3.b⟩
      replace hb2:=wiB_t hb2
      go_wp2_with fail
      (with_reducible refine (within_any _ _ _ _).mono ?_)
      rintro e w4 ⟨rfl,rfl⟩
      rcases hb3:wiB x.2.2 1 65535 with _ | _
      ·have:=wiB_f hb3
       go_wp2_with fail
       go_ret
       exact ⟨ret_bool (hbad.out (fun h=>by have:=h.2.2.2.1; omega)),S3.b⟩
      replace hb3:=wiB_t hb3
      go_wp2_with fail
      go_round
      case rel=>exact ⟨k + 1,by go_num,by omega,hgo.out ⟨hb1,hto,hb2,hb3,hbef⟩,S3.keepBoxes _ (by simp)⟩
      case measure=>simp [intOf]; omega
   ·obtain ⟨j,hj⟩:∃ j,j + 1 = k:=⟨k - 1,by omega⟩
    have hd:decide ((0:Int) < (k:Int)) = true:=by simp; omega
    have hw:IntKind.i64.wrap ((k:Int) - 1) = (j:Int):=by rw [show (k:Int) - 1 = (j:Int) by omega]; rw [IntKind.wrap_i64]; omega
    have hjn:j < n:=by omega
    obtain ⟨y,hy⟩:∃ y,adj[j]'(by omega) = y:=⟨_,rfl⟩
    have hy':adj[k - 1]? = some y:=by rw [← hj,Nat.add_sub_cancel,List.getElem?_eq_getElem (by omega),hy]
    obtain ⟨_,y1,_⟩:=hcells j (by omega)
    rw [hy] at y1
    have y1:=cell_later (show Below wr.heap.size wr w2 from hbw) y1
    by_cases hlt:y.2.1 < x.2.1
    ·have hbef:∀ y,0 < k → adj[k - 1]? = some y → y.2.1 < x.2.1:=fun z _ h=>by rw [hy'] at h; injection h with h; rw [← h]; exact hlt
     have hd2:decide (x.2.1 ≤ y.2.1) = false:=by simp; omega
     cases b1 with
     | false =>
       go_quiet ((go_at_call 170; exact quietL (W1.out _)))
       go_wp2_with fail
       go_ret
       exact ⟨ret_bool (hbad.out (fun h=>by have:=wiB_f hb1; omega)),below_drewN S2.b nq⟩
     | true =>
       go_quiet ((go_at_call 170; exact quietL (W1.out _)))
       have S3:=S2.drewN nq
       clear d0 d1 d2 c4 c0
       have d0:=S3.c 0 0 rfl rfl
       have d2:=S3.c 0 2 rfl rfl
       have c0:=S3.c 1 0 rfl rfl
       clear S2
       generalize w2.drewN nq = w3 at *
       replace hb1:=wiB_t hb1
       by_cases hto:x.1 = o
       ·go_wp2_with fail
        go_ret
        exact ⟨ret_bool (hbad.out (fun h=>h.2.1 hto)),S3.b⟩
       go_wp2_with fail
       (with_reducible refine (within_any _ _ _ _).mono ?_)
       rintro e w4 ⟨rfl,rfl⟩
       rcases hb2:wiB x.1 0 63 with _ | _
       ·have:=wiB_f hb2
        go_wp2_with fail
        go_ret
        exact ⟨ret_bool (hbad.out (fun h=>by have:=h.2.2.1; omega)),S3.b⟩
       replace hb2:=wiB_t hb2
       go_wp2_with fail
       (with_reducible refine (within_any _ _ _ _).mono ?_)
       rintro e w4 ⟨rfl,rfl⟩
       rcases hb3:wiB x.2.2 1 65535 with _ | _
       ·have:=wiB_f hb3
        go_wp2_with fail
        go_ret
        exact ⟨ret_bool (hbad.out (fun h=>by have:=h.2.2.2.1; omega)),S3.b⟩
       replace hb3:=wiB_t hb3
       go_wp2_with fail
       go_round
       case rel=>exact ⟨k + 1,by go_num,by omega,hgo.out ⟨hb1,hto,hb2,hb3,hbef⟩,S3.keepBoxes _ (by simp)⟩
       case measure=>simp [intOf]; omega
    ·have hd2:decide (x.2.1 ≤ y.2.1) = true:=by simp; omega
     go_quiet ((go_at_call 170; exact quietL (W1.out _)))
     go_wp2_with fail
     go_ret
     exact ⟨ret_bool (hbad.out (fun h=>by have:=h.2.2.2.2 y hkp hy'; omega)),below_drewN S2.b nq⟩
  ·obtain rfl:k = n:=by omega
   have c5:=S.c 0 5 rfl rfl
   go_wp2_with fail
   clear c5
   go_loopw [101] (fun v101 wr=>∃ i:Nat,v101 = .int .i64 i ∧ i ≤ m ∧ Hid (PfGood pre i) ∧ St w wr [(w.heap.size,[.int .i64 o,.int .i64 s,.int .i64 a,.bool ov,.slice A k c,.slice B m d])] [(A,adV adj),(B,pfV pre)]) (fun v101 _=>m - (intOf v101).toNat)
   case atStart=>exact ⟨0,rfl,by omega,fun k x hk=>absurd hk (by omega),S⟩
   case round =>
    clear S
    obtain ⟨i,rfl,hi,hpg,S⟩:=hrel
    by_cases him:i < m
    ·obtain ⟨b,off,rfl,hcells⟩:=rd_pf (S.r 1 rfl) (by omega)
     have c5:=S.c 0 5 rfl rfl
     obtain ⟨x0,x1⟩:=hcells i (by omega)
     obtain ⟨x,hx⟩:∃ x,pre[i]'(by omega) = x:=⟨_,rfl⟩
     rw [hx] at x0 x1
     have hx':pre[i]? = some x:=by rw [List.getElem?_eq_getElem (by omega),hx]
     have hxl:x.1 < 4294967296:=hu.out x (List.mem_of_getElem? hx')
     have hbad:Hid (¬ (pfxB x.1 x.2 = true ∧ (∀ y,0 < i → pre[i - 1]? = some y → cmpP y.1 y.2 x.1 x.2 < 0)) → false = vB ⟨o,s,a,ov,adj,pre⟩):=fun h=>hL.out false (fun e=>by cases e) (fun _ e=>h (e.2 i x him hx'))
     have hgo:Hid (pfxB x.1 x.2 = true ∧ (∀ y,0 < i → pre[i - 1]? = some y → cmpP y.1 y.2 x.1 x.2 < 0) → PfGood pre (i + 1)):=fun h=>hpg.out.snoc hx' h.1 h.2
     clear hpg
     go_wp2_with fail
     have S2:=S.new #[.int .u32 (x.1:Int),.int .i64 x.2] 181
     have hbw:=below_new' wr (.cells #[.int .u32 (x.1:Int),.int .i64 x.2] 181)
     clear c5 x0 x1
     generalize wr.alloc (.cells #[.int .u32 (x.1:Int),.int .i64 x.2] 181) = w2 at *
     generalize hg2:wr.heap.size = g2 at S2 ⊢
     have d0:=cell_regrown (S2.c 0 0 rfl rfl)
     have d1:=cell_regrown (S2.c 0 1 rfl rfl)
     have c5:=cell_regrown (S2.c 1 5 rfl rfl)
     have V:Hid (∀ W,Calls Tryz.prog 171 #[.agg #[.int .u32 (x.1:Int),.int .i64 x.2]] W fun e w'=>e = .returned (.bool (pfxB x.1 x.2)) ∧ Below W.heap.size W w'):=fun W=>pvalid_any x.1 x.2 hxl W
     obtain ⟨b1,hb1⟩:∃ b1,pfxB x.1 x.2 = b1:=⟨_,rfl⟩
     rw [hb1] at V
     cases b1 with
     | false =>
       refine wp_region_quiet_below (by kernel_rfl) (by kernel_rfl) ?_
       repeat (go_big_quiet_step (first
        | (go_at_call 171; with_reducible exact Calls.regrown_of (V.out _))))
       refine wpQuiet_nil ?_
       intro _ hw'
       obtain ⟨⟨dq,osq⟩,hw''⟩:=hw'
       subst hw''
       go_wp2_with fail
       go_ret
       exact ⟨ret_bool (hbad.out (fun h=>by rw [hb1] at h; cases h.1)),S2.b.trans ((below_regrown _ dq osq).mono S2.b.size)⟩
     | true =>
       rcases Nat.eq_zero_or_pos i with hk0 | hkp
       ·have hd:decide ((0:Int) < (i:Int)) = false:=by simp [hk0]
        have hbef:∀ y,0 < i → pre[i - 1]? = some y → cmpP y.1 y.2 x.1 x.2 < 0:=fun y h=>absurd h (by omega)
        refine wp_region_quiet_below (by kernel_rfl) (by kernel_rfl) ?_
        repeat (go_big_quiet_step (first
         | (go_at_call 171; with_reducible exact Calls.regrown_of (V.out _))))
        refine wpQuiet_nil ?_
        intro _ hw'
        obtain ⟨⟨dq,osq⟩,hw''⟩:=hw'
        subst hw''
        go_wp2_with fail
        go_round
        case rel=>exact ⟨i + 1,by go_num,by omega,hgo.out ⟨hb1,hbef⟩,(S2.call (below_regrown _ dq osq)).keepBoxes _ (by simp)⟩
        case measure=>simp [intOf]; omega
       ·obtain ⟨j,hj⟩:∃ j,j + 1 = i:=⟨i - 1,by omega⟩
        have hd:decide ((0:Int) < (i:Int)) = true:=by simp; omega
        have hw:IntKind.i64.wrap ((i:Int) - 1) = (j:Int):=by rw [show (i:Int) - 1 = (j:Int) by omega]; rw [IntKind.wrap_i64]; omega
        have hjm:j < m:=by omega
        obtain ⟨y,hy⟩:∃ y,pre[j]'(by omega) = y:=⟨_,rfl⟩
        have hy':pre[i - 1]? = some y:=by rw [← hj,Nat.add_sub_cancel,List.getElem?_eq_getElem (by omega),hy]
        obtain ⟨y0,y1⟩:=hcells j (by omega)
        rw [hy] at y0 y1
        have y0:=cell_regrown (cell_later (show Below wr.heap.size wr w2 from hbw) y0)
        have y1:=cell_regrown (cell_later (show Below wr.heap.size wr w2 from hbw) y1)
        by_cases hlt:cmpP y.1 y.2 x.1 x.2 < 0
        ·have hbef:∀ y,0 < i → pre[i - 1]? = some y → cmpP y.1 y.2 x.1 x.2 < 0:=fun z _ h=>by rw [hy'] at h; injection h with h; rw [← h]; exact hlt
         have hd2:decide (0 ≤ cmpP y.1 y.2 x.1 x.2) = false:=by simp; omega
         refine wp_region_quiet_below (by kernel_rfl) (by kernel_rfl) ?_
         repeat (go_big_quiet_step (first
          | (go_at_call 171; with_reducible exact Calls.regrown_of (V.out _))
          | (go_at_call 172; with_reducible exact Calls.regrown_of (pcompare_any _ _ _ _ _))))
         refine wpQuiet_nil ?_
         intro _ hw'
         obtain ⟨⟨dq,osq⟩,hw''⟩:=hw'
         subst hw''
         go_wp2_with fail
         go_round
         case rel=>exact ⟨i + 1,by go_num,by omega,hgo.out ⟨hb1,hbef⟩,(S2.call (below_regrown _ dq osq)).keepBoxes _ (by simp)⟩
         case measure=>simp [intOf]; omega
        ·have hd2:decide (0 ≤ cmpP y.1 y.2 x.1 x.2) = true:=by simp; omega
         refine wp_region_quiet_below (by kernel_rfl) (by kernel_rfl) ?_
         repeat (go_big_quiet_step (first
          | (go_at_call 171; with_reducible exact Calls.regrown_of (V.out _))
          | (go_at_call 172; with_reducible exact Calls.regrown_of (pcompare_any _ _ _ _ _))))
         refine wpQuiet_nil ?_
         intro _ hw'
         obtain ⟨⟨dq,osq⟩,hw''⟩:=hw'
         subst hw''
         go_wp2_with fail
         go_ret
         exact ⟨ret_bool (hbad.out (fun h=>by have:=h.2 y hkp hy'; omega)),S2.b.trans ((below_regrown _ dq osq).mono S2.b.size)⟩
    ·obtain rfl:i = m:=by omega
     go_wp2_with fail
     go_ret
     exact ⟨ret_bool (hL.out true (fun _=>⟨hgood.out,hpg.out⟩) (fun e=>by cases e)),S.b⟩
end Go.Proofs.YtehimhbgakpenaaGreat

namespace Go.Proofs.YtehimhbgakpenaaGreat
set_option linter.unusedVariables false
open Go.RowKit
theorem adT:ElemT Tryz.prog 38 169 (.agg #[.int .i64 0,.int .i64 0,.int .i64 0]) 3 24:=⟨Tryz.underlying38,by kernel_rfl,rfl,by omega⟩
theorem pfT:ElemT Tryz.prog 39 181 (.agg #[.int .u32 0,.int .i64 0]) 2 16:=⟨Tryz.underlying39,by kernel_rfl,rfl,by omega⟩
def LaAt (w:World) (v:Value) (x:La):Prop:=∃ A c B d,v = laV x.o x.s x.a x.ov A x.adj.length c B x.pre.length d ∧ Rd w A (adV x.adj) ∧ Rd w B (pfV x.pre) ∧
 x.adj.length ≤ c ∧ c ≤ maxLen ∧ x.pre.length ≤ d ∧ d ≤ maxLen ∧ ∀ p ∈ x.pre,p.1 < 4294967296
def LaOwn (w:World) (base:Nat) (v:Value) (x:La):Prop:=∃ A c B d,v = laV x.o x.s x.a x.ov A x.adj.length c B x.pre.length d ∧
 w.ownsRow base 169 3 (.slice A x.adj.length c) x.adj.length (adV x.adj) ∧ w.ownsRow base 181 2 (.slice B x.pre.length d) x.pre.length (pfV x.pre) ∧ ∀ p ∈ x.pre,p.1 < 4294967296
theorem LaOwn.at {w:World} {base:Nat} {v:Value} {x:La} (h:LaOwn w base v x):LaAt w v x:=by
 obtain ⟨A,c,B,d,rfl,h1,h2,h3⟩:=h
 obtain ⟨A',c',e1,r1,l1,m1⟩:=own_rd h1
 obtain ⟨B',d',e2,r2,l2,m2⟩:=own_rd h2
 simp only [Value.slice.injEq,true_and] at e1 e2
 obtain ⟨rfl,rfl⟩:=e1
 obtain ⟨rfl,rfl⟩:=e2
 exact ⟨A,c,B,d,rfl,r1,r2,l1,m1,l2,m2,h3⟩
theorem LaOwn.below {w w':World} {base:Nat} {v:Value} {x:La} (h:LaOwn w base v x) (hb:Below w.heap.size w w'):LaOwn w' base v x:=by
 obtain ⟨A,c,B,d,rfl,h1,h2,h3⟩:=h
 exact ⟨A,c,B,d,rfl,own_below h1 hb,own_below h2 hb,h3⟩
theorem LaOwn.mono {w:World} {base base':Nat} {v:Value} {x:La} (h:LaOwn w base' v x) (hb:base ≤ base'):LaOwn w base v x:=by
 obtain ⟨A,c,B,d,rfl,h1,h2,h3⟩:=h
 exact ⟨A,c,B,d,rfl,own_mono h1 hb,own_mono h2 hb,h3⟩
theorem LaAt.below {w w':World} {v:Value} {x:La} (h:LaAt w v x) (hb:Below w.heap.size w w'):LaAt w' v x:=by
 obtain ⟨A,c,B,d,rfl,h1,h2,h3⟩:=h
 exact ⟨A,c,B,d,rfl,h1.below hb,h2.below hb,h3⟩
theorem laZero_own (w:World) (base:Nat):LaOwn w base (laV 0 0 0 false none 0 0 none 0 0) laZero :=
 ⟨none,0,none,0,rfl,World.ownsRow_nil _ _ _ _,World.ownsRow_nil _ _ _ _,by simp [laZero]⟩
structure TakS (w:World) (g:Nat) (bs:List UInt8) (X:Option Addr) (m c:Nat):Prop where
 cel:w.cell? ⟨g,0,none⟩ = some (.slice X m c)
 frz:w.frozen? ⟨g,0,none⟩ = false
 rd:Bs w X bs
 len:bs.length = m
 mc:m ≤ c
 cm:c ≤ 9223372036854775807
 far:∀ ad,X = some ad → ad.block ≠ g
theorem subA_block {X:Option Addr} {lo c:Nat} {ad:Addr} (h:subA X lo c = some ad):∃ ad',X = some ad' ∧ ad.block = ad'.block:=by
 unfold subA at h
 split at h
 ·exact ⟨ad,h,rfl⟩
 ·obtain ⟨a,rfl,rfl⟩:=Option.map_eq_some_iff.1 h
  exact ⟨a,rfl,addr_add_block _ _⟩
theorem Rd.setFar {w:World} {A:Option Addr} {xs:List Value} (h:Rd w A xs) {p:Addr} (u:Value) (hp:∀ ad,A = some ad → ad.block ≠ p.block):Rd (w.setCell p u) A xs:=by
 intro hn
 obtain ⟨ad,e,hc⟩:=h hn
 refine ⟨ad,e,fun j v hv=>?_⟩
 rw [cell_far u (by intro e2; exact hp ad e (by rw [e2,addr_add_block]))]
 exact hc j v hv
theorem uiN_lt (bs:List UInt8) (h:bs.length ≤ 4):uiN bs < 4294967296:=by
 unfold uiN
 split
 ·have:=uintB_lt bs
  have:=Nat.pow_le_pow_right (n:=256) (by omega) h
  omega
 ·omega
set_option maxHeartbeats 1600000 in
theorem take_any (w:World) (g:Nat) (bs:List UInt8) (X:Option Addr) (m c k:Nat) (h:TakS w g bs X m c) (hk:k ≤ 4) :
  Calls Tryz.prog 160 #[.int .i64 k,.pointer (some ⟨g,0,none⟩)] w fun e w'=>e = .returned (.int .i64 (uiN (bs.take k))) ∧
   w' = w.setCell ⟨g,0,none⟩ (.slice (subA X (min k m) c) (m - min k m) (c - min k m)) ∧ TakS w' g (bs.drop k) (subA X (min k m) c) (m - min k m) (c - min k m):=by
 have hfin:Hid (TakS (w.setCell ⟨g,0,none⟩ (.slice (subA X (min k m) c) (m - min k m) (c - min k m))) g (bs.drop k) (subA X (min k m) c) (m - min k m) (c - min k m)):=by
  obtain ⟨c0,f0,rd,hl,hmc,hcm,far⟩:=h
  have hd:bs.drop k = bs.drop (min k m):=by
   rcases Nat.le_total k m with h | h
   ·rw [Nat.min_eq_left h]
   ·rw [Nat.min_eq_right h,List.drop_of_length_le (by omega),List.drop_of_length_le (by omega)]
  have far2:∀ ad,subA X (min k m) c = some ad → ad.block ≠ g:=by
   intro ad e
   obtain ⟨ad',e1,e2⟩:=subA_block e
   rw [e2]; exact far ad' e1
  refine ⟨World.cell?_setCell_same w _ _ c0,by simp [f0],?_,by rw [List.length_drop]; omega,by omega,by omega,far2⟩
  rw [hd]
  have h2:=Rd.sub rd (min k m) c (by rw [List.length_map]; omega)
  rw [← List.map_drop] at h2
  exact h2.setFar (p:=⟨g,0,none⟩) _ far2
 obtain ⟨c0,f0,rd,hl,hmc,hcm,far⟩:=h
 clear far
 have hlt:=uiN_lt (bs.take k) (by rw [List.length_take]; omega)
 have rdq:=rd.take k
 rw [← List.map_take] at rdq
 have hlq:(bs.take k).length = min k m:=by rw [List.length_take,hl]
 generalize bs.drop k = bs2 at hfin ⊢
 clear hl rd
 by_cases h:m < k
 ·rw [Nat.min_eq_right (by omega)] at hfin hlq ⊢
  rw [Nat.sub_self] at hfin ⊢
  have U:=uint_any X m c (bs.take k) w rdq hlq (by omega)
  have hs:=fun W=>run_from bytesT X m c m (by omega) W (P:=Tryz.prog)
  replace hlq:=Lib.hid hlq
  generalize uiN (bs.take k) = un at *
  generalize uiE (bs.take k) = ue at *
  clear hlq rdq
  generalize subA X m c = X2 at *
  go_enter Tryz.func160,Tryz.ntmps160
  go_wp2_with fail
  (with_reducible refine U.mono ?_)
  rintro e w1 ⟨rfl,rfl⟩
  clear U
  go_wp2_with fail
  go_ret
  exact ⟨rfl,rfl,hfin.out⟩
 ·rw [Nat.min_eq_left (by omega)] at hfin hlq ⊢
  have U:=uint_any X k c (bs.take k) w rdq hlq (by omega)
  have hs:=fun W=>run_from bytesT X m c k (by omega) W (P:=Tryz.prog)
  replace hlq:=Lib.hid hlq
  generalize uiN (bs.take k) = un at *
  generalize uiE (bs.take k) = ue at *
  clear hlq rdq
  generalize subA X k c = X2 at *
  go_enter Tryz.func160,Tryz.ntmps160
  go_wp2_with fail
  (with_reducible refine U.mono ?_)
  rintro e w1 ⟨rfl,rfl⟩
  clear U
  go_wp2_with fail
  go_ret
  exact ⟨rfl,rfl,hfin.out⟩
end Go.Proofs.YtehimhbgakpenaaGreat

namespace Go.Proofs.YtehimhbgakpenaaGreat
set_option linter.unusedVariables false
open Go.RowKit Go.ChangeShapes Go.WideShapes Go.ChangeAt
section
variable {P:Program} {w:World} {t:TypeId}
theorem opens_struct3 {α β γ:Type} {R:α → List Value → Prop} {S:β → List Value → Prop} {T:γ → List Value → Prop} {f g h:Field} (ht:P.underlying t = some (.struct #[f,g,h])) (hf:f.offset = 0) (hg:g.offset = 1) (hh:h.offset = 2)
  (cf:P.cellsOf f.type = 1) (cg:P.cellsOf g.type = 1) (ch:P.cellsOf h.type = 1) (hC:P.cellsOf t = 3) (hR:Opens P w f.type R) (hS:Opens P w g.type S) (hT:Opens P w h.type T) :
  Opens P w t (fun (x:α × β × γ) cs=>∃ a b c,cs = [a,b,c] ∧ R x.1 [a] ∧ S x.2.1 [b] ∧ T x.2.2 [c]):=by
 intro H enc base spare held fuel cs x hx
 obtain ⟨xs,n,_,_,hcl,hl,hi⟩:=DataW.trod_struct ht hx
 simp at hl
 have h0:=hi 0 f rfl
 have h1:=hi 1 g rfl
 have h2:=hi 2 h rfl
 rw [List.getElem?_eq_getElem (by omega)] at h0 h1 h2
 rw [hC] at hcl
 match cs,hcl with
 | [a,b,c],_ =>
   rw [hf,cf] at h0
   rw [hg,cg] at h1
   rw [hh,ch] at h2
   obtain ⟨p,rp,_⟩:=hR h0
   obtain ⟨q,rq,_⟩:=hS h1
   obtain ⟨r,rr,_⟩:=hT h2
   exact ⟨(p,q,r),⟨a,b,c,rfl,rp,rq,rr⟩,by simp [hC]⟩
end
section
variable {H:Type} {enc:TypeId × Value → H} {w:World} {base:Nat} {spare:Nat → Bool} {held:Bool} {r:Reach} {b0:Nat} {v:Value} {d:DataW H} {ps:List MemPlace}
end
end Go.Proofs.YtehimhbgakpenaaGreat
