/-
  The walks of the statements about package hello.
-/
import Derived.Test.YtpjbblmhpkapnaaHelFlat
import Derived.OpenShut
import Derived.Lib.QuietBelow
namespace Go.Proofs.Ytpjbblmhpkapnaa
set_option linter.unusedVariables false
open Go.RowKit Go.Sort

set_option maxHeartbeats 1600000 in
theorem valid_law (w : World) (p : Int) (_hp : (Lit.int .i64 p).wf = true) (l : Int) (_hl : (Lit.int .i64 l).wf = true) :
    Calls Try.prog 7 #[.int .i64 p, .int .i64 l] w fun e w' => e = .returned (.bool true) ∧ Below w.heap.size w w' := by
  have c0 := cell_regrown (show (w.alloc (.cells #[.int .i64 p, .int .i64 l] 23)).cell? ⟨w.heap.size, 0, none⟩ = some (.int .i64 p) by simp)
  have c1 := cell_regrown (show (w.alloc (.cells #[.int .i64 p, .int .i64 l] 23)).cell? ⟨w.heap.size, 1, none⟩ = some (.int .i64 l) by simp)
  have hn := below_new w (.cells #[.int .i64 p, .int .i64 l] 23)
  have H : ∀ b c, vld p l = b → (p == 0) = c → Calls Try.prog 7 #[.int .i64 p, .int .i64 l] w fun e w' => e = .returned (.bool true) ∧ Below w.heap.size w w' := by
    intro b c hb hc
    have V := fun W => valid_any p l W
    have V2 := fun W => rvalid_any p l W
    have V3 := fun W => seen_any p l W
    have hs : sn p l = (b && !c) := by simp [sn, hb, hc, bne]
    have hd : (p != 0) = !c := by simp [bne, hc]
    rw [hb] at V V2
    rw [hs] at V3
    have V1 := Lib.hid V
    have V4 := Lib.hid V2
    have V5 := Lib.hid V3
    clear hb hc hs V V2 V3
    cases b
    all_goals
      go_enter Try.func7, Try.ntmps7
      go_wp2_with fail
      refine wp_region_quiet_below (by kernel_rfl) (by kernel_rfl) ?_
      repeat (quiet_step (first
        | (go_at_call 10; exact Calls.regrown_of (awake_any _))
        | (go_at_call 18; exact Calls.regrown_of (V1.out _))
        | (go_at_call 12; exact Calls.regrown_of (V4.out _))
        | (go_at_call 19; exact Calls.regrown_of (V5.out _))))
      refine wpQuiet_nil ?_
      intro _ hw'
      obtain ⟨⟨dq, osq⟩, hw''⟩ := hw'
      subst hw''
      go_wp2_with fail
      go_ret
      exact ⟨by simp, hn.trans ((below_regrown _ dq osq).mono (by simp))⟩
  exact H _ _ rfl rfl

set_option maxHeartbeats 800000 in
theorem receives_law (w : World) (p l : Int) (seen : Bool) (hold : Int) (hh : (Lit.int .i64 hold).wf = true) :
    Calls Try.prog 3 #[.agg #[.int .i64 p, .int .i64 l], .bool seen, .int .i64 hold] w fun e w' => e = .returned (.bool true) ∧ Below w.heap.size w w' := by
  have S := (St.start w).new #[.int .i64 p, .int .i64 l] 23
  by_cases hv : vld p l = false ∨ hold < 1 ∨ 65536 < hold
  · have R := Lib.hid (fun W => receive_bad p l hold seen W hv)
    have V := Lib.hid (fun W => rvalid_any p l W)
    have hh : Hid (vld p l = true → hold < 1 ∨ 65536 < hold) := by rcases hv with h | h <;> simp [h, Hid]
    clear hv
    go_enter Try.func3, Try.ntmps3
    go_wp2_with fail
    (with_reducible refine (awake_any _).mono ?_)
    rintro e w1 ⟨rfl, hb1⟩
    replace S := S.call hb1
    clear hb1
    have c0 := S.c 0 0 rfl rfl
    have c1 := S.c 0 1 rfl rfl
    go_wp2_with fail
    (with_reducible refine (R.out _).mono ?_)
    rintro e w2 ⟨rfl, hb2⟩
    replace S := (S.call hb2).new #[.int .i64 0, .int .i64 0] 25
    clear c0 c1 R hb2
    have c0 := S.c 1 0 rfl rfl
    have c1 := S.c 1 1 rfl rfl
    go_wp2_with fail
    (with_reducible refine (V.out _).mono ?_)
    rintro e w3 ⟨rfl, hb3⟩
    replace S := S.call hb3
    clear c0 c1 V hb3
    have d0 := S.c 0 0 rfl rfl
    have d1 := S.c 0 1 rfl rfl
    cases hvv : vld p l
    · go_wp2_with fail
      go_ret
      exact ⟨rfl, S.b⟩
    · rcases hh.out hvv with h | h
      · go_wp2_with fail
        go_ret
        exact ⟨rfl, S.b⟩
      · have h' : ¬ hold < 1 := by omega
        go_wp2_with fail
        go_ret
        exact ⟨rfl, S.b⟩
  · have hv1 : vld p l = true := by simp at hv; simp [hv]
    have h1 : 1 ≤ hold := by omega
    have h2 : hold ≤ 65536 := by omega
    clear hv hh
    obtain ⟨q, hq⟩ : ∃ q : Int, (if seen then 2 else 1) = q := ⟨_, rfl⟩
    have R := fun W => receive_ok p l hold seen W hv1 h1 h2
    have V := fun W => rvalid_any p l W
    have R2 := fun W => rreceive_any seen hold W
    rw [hv1] at V
    simp only [hq] at R R2
    replace R := Lib.hid R
    replace V := Lib.hid V
    replace R2 := Lib.hid R2
    clear hv1 hq
    go_enter Try.func3, Try.ntmps3
    go_wp2_with fail
    (with_reducible refine (awake_any _).mono ?_)
    rintro e w1 ⟨rfl, hb1⟩
    replace S := S.call hb1
    clear hb1
    have c0 := S.c 0 0 rfl rfl
    have c1 := S.c 0 1 rfl rfl
    go_wp2_with fail
    (with_reducible refine (R.out _).mono ?_)
    rintro e w2 ⟨rfl, hb2⟩
    replace S := (S.call hb2).new #[.int .i64 q, .int .i64 hold] 25
    clear c0 c1 R hb2
    have c0 := S.c 1 0 rfl rfl
    have c1 := S.c 1 1 rfl rfl
    go_wp2_with fail
    (with_reducible refine (V.out _).mono ?_)
    rintro e w3 ⟨rfl, hb3⟩
    replace S := S.call hb3
    clear c0 c1 V hb3
    go_wp2_with fail
    (with_reducible refine (R2.out _).mono ?_)
    rintro e w4 ⟨rfl, hb4⟩
    replace S := (S.call hb4).new #[.int .i64 q, .int .i64 hold] 23
    clear R2 hb4
    have c0 := S.c 0 0 rfl rfl
    have c1 := S.c 0 1 rfl rfl
    have d0 := S.c 1 0 rfl rfl
    have d1 := S.c 1 1 rfl rfl
    have g0 := S.c 2 0 rfl rfl
    have g1 := S.c 2 1 rfl rfl
    go_wp2_with fail
    (with_reducible refine (revent_any _ _ _ _ _).mono ?_)
    rintro e w5 ⟨rfl, hb5⟩
    replace S := S.call hb5
    go_wp2_with fail
    go_ret
    exact ⟨by simp, S.b⟩

set_option maxHeartbeats 800000 in
theorem ticks_law (w : World) (p l n : Int) (hn : (Lit.int .i64 n).wf = true) :
    Calls Try.prog 4 #[.agg #[.int .i64 p, .int .i64 l], .int .i64 n] w fun e w' => e = .returned (.bool true) ∧ Below w.heap.size w w' := by
  have ⟨hn0, hn1⟩ := bounds_i64 hn
  clear hn
  have S := (St.start w).new #[.int .i64 p, .int .i64 l] 23
  cases hv : vld p l
  · have K := Lib.hid (fun W => tick_bad p l n W hv)
    have F := Lib.hid (fun W => fail_bad p l W hv)
    have V := fun W => rvalid_any p l W
    rw [hv] at V
    replace V := Lib.hid V
    clear hv hn0 hn1
    go_enter Try.func4, Try.ntmps4
    go_wp2_with fail
    (with_reducible refine (awake_any _).mono ?_)
    rintro e w1 ⟨rfl, hb1⟩
    replace S := S.call hb1
    clear hb1
    have c0 := S.c 0 0 rfl rfl
    have c1 := S.c 0 1 rfl rfl
    go_wp2_with fail
    (with_reducible refine (K.out _).mono ?_)
    rintro e w2 ⟨rfl, hb2⟩
    replace S := (S.call hb2).new #[.int .i64 0, .int .i64 0] 25
    clear c0 c1 K hb2
    have c0 := S.c 1 0 rfl rfl
    have c1 := S.c 1 1 rfl rfl
    go_wp2_with fail
    (with_reducible refine (F.out _).mono ?_)
    rintro e w3 ⟨rfl, hb3⟩
    replace S := (S.call hb3).new #[.int .i64 0, .int .i64 0] 25
    clear c0 c1 F hb3
    have c0 := S.c 2 0 rfl rfl
    have c1 := S.c 2 1 rfl rfl
    go_wp2_with fail
    (with_reducible refine (V.out _).mono ?_)
    rintro e w4 ⟨rfl, hb4⟩
    replace S := S.call hb4
    clear c0 c1 V hb4
    have c0 := S.c 0 0 rfl rfl
    have c1 := S.c 0 1 rfl rfl
    have d0 := S.c 1 0 rfl rfl
    have d1 := S.c 1 1 rfl rfl
    go_wp2_with fail
    go_ret
    exact ⟨rfl, S.b⟩
  · have K := fun W => tick_ok p l n W hv
    have F := Lib.hid (fun W => fail_ok p l W hv)
    have V := fun W => rvalid_any p l W
    have RT := fun W => rtick_any p l n W hv hn1
    rw [hv] at V
    generalize tkP p l n = a at K RT
    generalize tkL p l n = b at K RT
    replace K := Lib.hid K
    replace RT := Lib.hid RT
    replace V := Lib.hid V
    clear hv hn0 hn1
    go_enter Try.func4, Try.ntmps4
    go_wp2_with fail
    (with_reducible refine (awake_any _).mono ?_)
    rintro e w1 ⟨rfl, hb1⟩
    replace S := S.call hb1
    clear hb1
    have c0 := S.c 0 0 rfl rfl
    have c1 := S.c 0 1 rfl rfl
    go_wp2_with fail
    (with_reducible refine (K.out _).mono ?_)
    rintro e w2 ⟨rfl, hb2⟩
    replace S := (S.call hb2).new #[.int .i64 a, .int .i64 b] 25
    clear c0 c1 K hb2
    have c0 := S.c 1 0 rfl rfl
    have c1 := S.c 1 1 rfl rfl
    go_wp2_with fail
    (with_reducible refine (F.out _).mono ?_)
    rintro e w3 ⟨rfl, hb3⟩
    replace S := (S.call hb3).new #[.int .i64 0, .int .i64 0] 25
    clear c0 c1 F hb3
    have c0 := S.c 2 0 rfl rfl
    have c1 := S.c 2 1 rfl rfl
    go_wp2_with fail
    (with_reducible refine (V.out _).mono ?_)
    rintro e w4 ⟨rfl, hb4⟩
    replace S := S.call hb4
    clear c0 c1 V hb4
    have c0 := S.c 2 0 rfl rfl
    have c1 := S.c 2 1 rfl rfl
    go_wp2_with fail
    (with_reducible refine (RT.out _).mono ?_)
    rintro e w5 ⟨rfl, hb5⟩
    replace S := (S.call hb5).new #[.int .i64 a, .int .i64 b] 23
    clear c0 c1 RT hb5
    have c0 := S.c 0 0 rfl rfl
    have c1 := S.c 0 1 rfl rfl
    have d0 := S.c 1 0 rfl rfl
    have d1 := S.c 1 1 rfl rfl
    have e0 := S.c 2 0 rfl rfl
    have e1 := S.c 2 1 rfl rfl
    have g0 := S.c 3 0 rfl rfl
    have g1 := S.c 3 1 rfl rfl
    go_wp2_with fail
    (with_reducible refine (revent_any _ _ _ _ _).mono ?_)
    rintro e w6 ⟨rfl, hb6⟩
    replace S := S.call hb6
    clear c0 c1 d0 d1 e0 e1 g0 g1 hb6
    have c0 := S.c 1 0 rfl rfl
    have c1 := S.c 1 1 rfl rfl
    have g0 := S.c 3 0 rfl rfl
    have g1 := S.c 3 1 rfl rfl
    go_wp2_with fail
    (with_reducible refine (revent_any _ _ _ _ _).mono ?_)
    rintro e w7 ⟨rfl, hb7⟩
    replace S := S.call hb7
    go_wp2_with fail
    go_ret
    exact ⟨by simp, S.b⟩

theorem tk_add {p l : Int} (n m : Int) (h : vld p l = true) (hn : 0 ≤ n) (hm : 0 ≤ m) :
    tkP (tkP p l n) (tkL p l n) m = tkP p l (n + m) ∧ tkL (tkP p l n) (tkL p l n) m = tkL p l (n + m) ∧ max (evt p (tkP p l n)) (evt (tkP p l n) (tkP p l (n + m))) = evt p (tkP p l (n + m)) := by
  have hv := vld_le h
  by_cases hp : p = 0
  · have e1 : tkP p l n = p := by simp [tkP, hp]
    have e2 : tkL p l n = l := by simp [tkL, hp]
    have e3 : tkP p l (n + m) = p := by simp [tkP, hp]
    have e4 : tkL p l (n + m) = l := by simp [tkL, hp]
    rw [e1, e2, e3, e4]
    have e5 : tkP p l m = p := by simp [tkP, hp]
    have e6 : tkL p l m = l := by simp [tkL, hp]
    rw [e5, e6, evt_same]; simp
  · by_cases hn0 : n = 0
    · subst hn0
      have e1 : tkP p l 0 = p := by simp [tkP]
      have e2 : tkL p l 0 = l := by simp [tkL]
      rw [e1, e2, Int.zero_add, evt_same]
      refine ⟨rfl, rfl, ?_⟩
      have : 0 ≤ evt p (tkP p l m) := by unfold evt; split <;> split <;> omega
      omega
    · by_cases hl : l ≤ n
      · have e1 : tkP p l n = 0 := by simp only [tkP]; rw [if_neg (by omega), if_pos hl]
        have e2 : tkL p l n = 0 := by simp only [tkL]; rw [if_neg (by omega), if_pos hl]
        have e3 : tkP p l (n + m) = 0 := by simp only [tkP]; rw [if_neg (by omega), if_pos (by omega)]
        have e4 : tkL p l (n + m) = 0 := by simp only [tkL]; rw [if_neg (by omega), if_pos (by omega)]
        rw [e1, e2, e3, e4, evt_same]
        refine ⟨by simp [tkP], by simp [tkL], ?_⟩
        have : 0 ≤ evt p 0 := by unfold evt; split <;> split <;> omega
        omega
      · have e1 : tkP p l n = p := by simp only [tkP]; rw [if_neg (by omega), if_neg hl]
        have e2 : tkL p l n = l - n := by simp only [tkL]; rw [if_neg (by omega), if_neg hl]
        rw [e1, e2, evt_same]
        have h0 : 0 ≤ evt p (tkP p l (n + m)) := by unfold evt; split <;> split <;> omega
        refine ⟨?_, ?_, by omega⟩
        · show (if m ≤ 0 ∨ p = 0 then p else if l - n ≤ m then 0 else p) = (if n + m ≤ 0 ∨ p = 0 then p else if l ≤ n + m then 0 else p)
          rw [if_neg (show ¬(n + m ≤ 0 ∨ p = 0) by omega)]
          by_cases hm0 : m ≤ 0 ∨ p = 0
          · rw [if_pos hm0, if_neg (show ¬ l ≤ n + m by omega)]
          · rw [if_neg hm0]
            by_cases hk : l ≤ n + m
            · rw [if_pos hk, if_pos (show l - n ≤ m by omega)]
            · rw [if_neg hk, if_neg (show ¬ l - n ≤ m by omega)]
        · show (if m ≤ 0 ∨ p = 0 then l - n else if l - n ≤ m then 0 else l - n - m) = (if n + m ≤ 0 ∨ p = 0 then l else if l ≤ n + m then 0 else l - (n + m))
          rw [if_neg (show ¬(n + m ≤ 0 ∨ p = 0) by omega)]
          by_cases hm0 : m ≤ 0 ∨ p = 0
          · rw [if_pos hm0, if_neg (show ¬ l ≤ n + m by omega)]; omega
          · rw [if_neg hm0]
            by_cases hk : l ≤ n + m
            · rw [if_pos hk, if_pos (show l - n ≤ m by omega)]
            · rw [if_neg hk, if_neg (show ¬ l - n ≤ m by omega)]; omega

set_option maxHeartbeats 800000 in
theorem adds_law (w : World) (p l n : Int) (hn : (Lit.int .u32 n).wf = true) (m : Int) (hm : (Lit.int .u32 m).wf = true) :
    Calls Try.prog 6 #[.agg #[.int .i64 p, .int .i64 l], .int .u32 n, .int .u32 m] w fun e w' => e = .returned (.bool true) ∧ Below w.heap.size w w' := by
  have ⟨hn0, hn1⟩ := bounds_u32 hn
  have ⟨hm0, hm1⟩ := bounds_u32 hm
  clear hn hm
  have S := (St.start w).new #[.int .i64 p, .int .i64 l] 23
  cases hv : vld p l
  · have V := fun W => rvalid_any p l W
    rw [hv] at V
    replace V := Lib.hid V
    clear hv
    go_enter Try.func6, Try.ntmps6
    go_wp2_with fail
    (with_reducible refine (awake_any _).mono ?_)
    rintro e w1 ⟨rfl, hb1⟩
    replace S := S.call hb1
    clear hb1
    have c0 := S.c 0 0 rfl rfl
    have c1 := S.c 0 1 rfl rfl
    go_wp2_with fail
    (with_reducible refine (V.out _).mono ?_)
    rintro e w2 ⟨rfl, hb2⟩
    replace S := S.call hb2
    go_wp2_with fail
    go_ret
    exact ⟨rfl, S.b⟩
  · have K := fun W => tick_ok p l n W hv
    have K2 := fun W => tick_ok _ _ m W (tk_vld n hv)
    have K3 := fun W => tick_ok p l (n + m) W hv
    have V := fun W => rvalid_any p l W
    obtain ⟨t1, t2, t3⟩ := tk_add n m hv hn0 hm0
    rw [hv] at V
    rw [t1, t2] at K2
    generalize tkP p l n = a at K K2 t3
    generalize tkL p l n = b at K K2
    generalize tkP p l (n + m) = a2 at K2 K3 t3
    generalize tkL p l (n + m) = b2 at K2 K3
    generalize evt p a = e1 at K t3
    generalize evt a a2 = e2 at K2 t3
    replace K := Lib.hid K
    replace K2 := Lib.hid K2
    replace K3 := Lib.hid K3
    replace V := Lib.hid V
    clear hv t1 t2
    go_enter Try.func6, Try.ntmps6
    go_wp2_with fail
    (with_reducible refine (awake_any _).mono ?_)
    rintro e w1 ⟨rfl, hb1⟩
    replace S := S.call hb1
    clear hb1
    have c0 := S.c 0 0 rfl rfl
    have c1 := S.c 0 1 rfl rfl
    go_wp2_with fail
    (with_reducible refine (V.out _).mono ?_)
    rintro e w2 ⟨rfl, hb2⟩
    replace S := S.call hb2
    clear c0 c1 V hb2
    have c0 := S.c 0 0 rfl rfl
    have c1 := S.c 0 1 rfl rfl
    go_wp2_with fail
    (with_reducible refine (K.out _).mono ?_)
    rintro e w3 ⟨rfl, hb3⟩
    replace S := (S.call hb3).new #[.int .i64 a, .int .i64 b] 25
    clear c0 c1 K hb3
    go_wp2_with fail
    (with_reducible refine (K2.out _).mono ?_)
    rintro e w4 ⟨rfl, hb4⟩
    replace S := (S.call hb4).new #[.int .i64 a2, .int .i64 b2] 25
    clear K2 hb4
    have c0 := S.c 2 0 rfl rfl
    have c1 := S.c 2 1 rfl rfl
    go_wp2_with fail
    (with_reducible refine (K3.out _).mono ?_)
    rintro e w5 ⟨rfl, hb5⟩
    replace S := (S.call hb5).new #[.int .i64 a2, .int .i64 b2] 25
    clear c0 c1 K3 hb5
    have c0 := S.c 0 0 rfl rfl
    have c1 := S.c 0 1 rfl rfl
    have d0 := S.c 1 0 rfl rfl
    have d1 := S.c 1 1 rfl rfl
    go_wp2_with fail
    all_goals
      go_ret
      refine ⟨ret_bool ?_, S.b⟩
      first
        | rfl
        | (simp; omega)
end Go.Proofs.Ytpjbblmhpkapnaa
