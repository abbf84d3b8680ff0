/-
  The contract of lsa.Valid.
-/
import Derived.Test.YtnfldccaeibcpaaVal
import Derived.OpenShut
import Derived.Lib.QuietBelow
namespace Go.Proofs.Ytnfldccaeibcpaa
set_option linter.unusedVariables false
open Go.RowKit Go.Sort

abbrev laV (o s a : Int) (ov : Bool) (A : Option Addr) (n c : Nat) (B : Option Addr) (m d : Nat) : Value := .agg #[.int .i64 o, .int .i64 s, .int .i64 a, .bool ov, .slice A n c, .slice B m d]
abbrev laB (o s a : Int) (ov : Bool) (A : Option Addr) (n c : Nat) (B : Option Addr) (m d : Nat) : Obj := .cells #[.int .i64 o, .int .i64 s, .int .i64 a, .bool ov, .slice A n c, .slice B m d] 45

set_option maxRecDepth 100000 in
set_option maxHeartbeats 3200000 in
theorem valid_any (o s a : Int) (ov : Bool) (adj : List Ad) (pre : List Pf) (A : Option Addr) (n c : Nat) (B : Option Addr) (m d : Nat) (w : World) (hn : adj.length = n) (hm : pre.length = m) (hA : Rd w A (adV adj)) (hB : Rd w B (pfV pre)) (hu : ∀ x ∈ pre, x.1 < 4294967296) :
    Calls Try.prog 27 #[laV o s a ov A n c B m d] w fun e w' => e = .returned (.bool (vB ⟨o, s, a, ov, adj, pre⟩)) ∧ Below w.heap.size w w' := by
  have hbb := below_new' w (laB o s a ov A n c B m d)
  have S := Box.new w #[.int .i64 o, .int .i64 s, .int .i64 a, .bool ov, .slice A n c, .slice B m d] 45
  have c0 := S.c 0 rfl
  have c1 := S.c 1 rfl
  have c2 := S.c 2 rfl
  have c3 := S.c 3 rfl
  have c4 := S.c 4 rfl
  have c5 := S.c 5 rfl
  replace hu := Lib.hid hu
  go_enter Try.func27, Try.ntmps27
  go_wp2_with fail
  (with_reducible refine (within_any _ _ _ _).mono ?_)
  rintro e w1 ⟨rfl, rfl⟩
  rcases hw1 : wiB o 0 63 with _ | _
  · have := wiB_f hw1
    go_wp2_with fail
    go_ret
    exact ⟨ret_bool (vB_f (fun h => by have := h.1; simp only at this; omega)).symm, hbb⟩
  replace hw1 := Lib.hid (wiB_t hw1)
  go_wp2_with fail
  (with_reducible refine (within_any _ _ _ _).mono ?_)
  rintro e w1 ⟨rfl, rfl⟩
  rcases hw2 : wiB s 1 1073741824 with _ | _
  · have := wiB_f hw2
    go_wp2_with fail
    go_ret
    exact ⟨ret_bool (vB_f (fun h => by have := h.2.1; simp only at this; omega)).symm, hbb⟩
  replace hw2 := Lib.hid (wiB_t hw2)
  go_wp2_with fail
  (with_reducible refine (within_any _ _ _ _).mono ?_)
  rintro e w1 ⟨rfl, rfl⟩
  rcases hw3 : wiB a 0 3600 with _ | _
  · have := wiB_f hw3
    go_wp2_with fail
    go_ret
    exact ⟨ret_bool (vB_f (fun h => by have := h.2.2.1; simp only at this; omega)).symm, hbb⟩
  replace hw3 := Lib.hid (wiB_t hw3)
  by_cases hl1 : 256 < n
  · go_wp2_with fail
    go_ret
    exact ⟨ret_bool (vB_f (fun h => by have := h.2.2.2.1; simp only at this; omega)).symm, hbb⟩
  by_cases hl2 : 64 < m
  · go_wp2_with fail
    go_ret
    exact ⟨ret_bool (vB_f (fun h => by have := h.2.2.2.2.1; simp only at this; omega)).symm, hbb⟩
  by_cases hb : a = 3600 ∧ (ov = true ∨ 0 < n ∨ 0 < m)
  · have hz : vB ⟨o, s, a, ov, adj, pre⟩ = false := vB_f (fun h => by
      obtain ⟨e1, e2, e3⟩ := h.2.2.2.2.2.1 hb.1
      simp only at e1 e2 e3
      subst e2 e3
      rcases hb.2 with e | e | e
      · rw [e] at e1; cases e1
      · simp at hn; omega
      · simp at hm; omega)
    obtain ⟨rfl, hb⟩ := hb
    rcases hb with rfl | hb | hb
    · go_wp2_with fail
      all_goals go_ret
      all_goals exact ⟨ret_bool hz.symm, below_new' w _⟩
    · go_wp2_with fail
      all_goals go_ret
      all_goals exact ⟨ret_bool hz.symm, below_new' w _⟩
    · go_wp2_with fail
      all_goals go_ret
      all_goals exact ⟨ret_bool hz.symm, below_new' w _⟩
  have hP : a = 3600 → ov = false ∧ adj = [] ∧ pre = [] := by
    intro e
    refine ⟨?_, ?_, ?_⟩
    · cases ov with
      | false => rfl
      | true => exact absurd ⟨e, .inl rfl⟩ hb
    · exact List.eq_nil_of_length_eq_zero ((Nat.eq_zero_or_pos n).elim (fun h => by omega) (fun h => absurd ⟨e, .inr (.inl h)⟩ hb))
    · exact List.eq_nil_of_length_eq_zero ((Nat.eq_zero_or_pos m).elim (fun h => by omega) (fun h => absurd ⟨e, .inr (.inr h)⟩ hb))
  have hL : Hid (∀ b, (b = true → AdGood o adj n ∧ PfGood pre m) → (b = false → ¬ (AdGood o adj n ∧ PfGood pre m)) → b = vB ⟨o, s, a, ov, adj, pre⟩) := by
    intro b h1 h2
    cases b with
    | true => exact (vB_t ⟨hw1.out, hw2.out, hw3.out, by simp only; omega, by simp only; omega, hP, by simp only; rw [hn]; exact (h1 rfl).1, by simp only; rw [hm]; exact (h1 rfl).2⟩).symm
    | false => exact (vB_f (fun h => h2 rfl (by
        obtain ⟨_, _, _, _, _, _, e1, e2⟩ := h
        simp only [hn, hm] at e1 e2
        exact ⟨e1, e2⟩))).symm
  replace hP := Lib.hid hP
  have hC : (a ≠ 3600) ∨ (a = 3600 ∧ ov = false ∧ n = 0 ∧ m = 0) := by
    by_cases e : a = 3600
    · obtain ⟨e1, rfl, rfl⟩ := hP.out e
      exact .inr ⟨e, e1, by simpa using hn.symm, by simpa using hm.symm⟩
    · exact .inl e
  clear hw2 hw3 hb hP hw1
  have S0 : St w (w.alloc (laB o s a ov A n c B m d)) [(w.heap.size, [.int .i64 o, .int .i64 s, .int .i64 a, .bool ov, .slice A n c, .slice B m d])] [(A, adV adj), (B, pfV pre)] := ((((St.start w).read hB).read hA).new #[.int .i64 o, .int .i64 s, .int .i64 a, .bool ov, .slice A n c, .slice B m d] 45)
  clear S hbb
  rcases hC with e36 | ⟨e36, hov, hn0, hm0⟩
  rotate_left
  · subst e36 hov hn0 hm0
    have hr : vB ⟨o, s, 3600, false, adj, pre⟩ = true := (hL.out true (fun _ => ⟨fun k x hk => absurd hk (by omega), fun k x hk => absurd hk (by omega)⟩) (fun h => by cases h)).symm
    clear hL
    go_wp2_with fail
    go_loop [55] (fun v55 => v55 = .int .i64 0) (fun v55 => 0)
    case atStart => rfl
    case round =>
      obtain rfl := hrel
      go_wp2_with fail
      go_loop [101] (fun v101 => v101 = .int .i64 0) (fun v101 => 0)
      case atStart => rfl
      case round =>
        obtain rfl := hrel
        go_wp2_with fail
        go_ret
        exact ⟨rfl, below_new' w _⟩
  go_wp2_with fail
  generalize w.alloc (.cells #[.int .i64 o, .int .i64 s, .int .i64 a, .bool ov, .slice A n c, .slice B m d] 45) = w1 at *
  clear c0 c1 c2 c3 c4 c5
  go_loopw [55] (fun v55 wr => ∃ k : Nat, v55 = .int .i64 k ∧ k ≤ n ∧ Hid (AdGood o adj k) ∧ St w wr [(w.heap.size, [.int .i64 o, .int .i64 s, .int .i64 a, .bool ov, .slice A n c, .slice B m d])] [(A, adV adj), (B, pfV pre)]) (fun v55 _ => n - (intOf v55).toNat)
  case atStart => exact ⟨0, rfl, by omega, fun k x hk => absurd hk (by omega), S0⟩
  case round =>
    obtain ⟨k, rfl, hk, hgood, S⟩ := hrel
    clear S0 hA hB
    by_cases hkn : k < n
    · obtain ⟨b, off, rfl, hcells⟩ := rd_ad (S.r 0 rfl) (by omega)
      have c4 := S.c 0 4 rfl rfl
      obtain ⟨x0, x1, x2⟩ := hcells k (by omega)
      obtain ⟨x, hx⟩ : ∃ x, adj[k]'(by omega) = x := ⟨_, rfl⟩
      rw [hx] at x0 x1 x2
      have hx' : adj[k]? = some x := by rw [List.getElem?_eq_getElem (by omega), hx]
      have hbad : Hid (¬ ((0 ≤ x.2.1 ∧ x.2.1 ≤ 255) ∧ x.1 ≠ o ∧ (0 ≤ x.1 ∧ x.1 ≤ 63) ∧ (1 ≤ x.2.2 ∧ x.2.2 ≤ 65535) ∧ (∀ y, 0 < k → adj[k - 1]? = some y → y.2.1 < x.2.1)) → false = vB ⟨o, s, a, ov, adj, pre⟩) := fun h => hL.out false (fun e => by cases e) (fun _ e => h (e.1 k x hkn hx'))
      have hgo : Hid ((0 ≤ x.2.1 ∧ x.2.1 ≤ 255) ∧ x.1 ≠ o ∧ (0 ≤ x.1 ∧ x.1 ≤ 63) ∧ (1 ≤ x.2.2 ∧ x.2.2 ≤ 65535) ∧ (∀ y, 0 < k → adj[k - 1]? = some y → y.2.1 < x.2.1) → AdGood o adj (k + 1)) := fun h => hgood.out.snoc hx' h.1 h.2.1 h.2.2.1 h.2.2.2.1 h.2.2.2.2
      clear hgood
      go_wp2_with fail
      have S2 := S.new #[.int .i64 x.1, .int .i64 x.2.1, .int .i64 x.2.2] 105
      have hbw := below_new' wr (.cells #[.int .i64 x.1, .int .i64 x.2.1, .int .i64 x.2.2] 105)
      clear c4 x0 x1 x2
      generalize wr.alloc (.cells #[.int .i64 x.1, .int .i64 x.2.1, .int .i64 x.2.2] 105) = w2 at *
      generalize hg2 : wr.heap.size = g2 at S2 ⊢
      have d0 := S2.c 0 0 rfl rfl
      have d1 := S2.c 0 1 rfl rfl
      have d2 := S2.c 0 2 rfl rfl
      have c4 := S2.c 1 4 rfl rfl
      have c0 := S2.c 1 0 rfl rfl
      have W1 : Hid (∀ W, Calls Try.prog 40 #[.int .i64 x.2.1, .int .i64 0, .int .i64 255] W fun e w' => e = .returned (.bool (wiB x.2.1 0 255)) ∧ W = w') := fun W => within_any x.2.1 0 255 W
      obtain ⟨b1, hb1⟩ : ∃ b1, wiB x.2.1 0 255 = b1 := ⟨_, rfl⟩
      rw [hb1] at W1
      rcases Nat.eq_zero_or_pos k with hk0 | hkp
      · have hd : decide ((0 : Int) < (k : Int)) = false := by simp [hk0]
        have hbef : ∀ y, 0 < k → adj[k - 1]? = some y → y.2.1 < x.2.1 := fun y h => absurd h (by omega)
        cases b1 with
        | false =>
          go_quiet ((go_at_call 40; exact quietL (W1.out _)))
          go_wp2_with fail
          go_ret
          exact ⟨ret_bool (hbad.out (fun h => by have := wiB_f hb1; omega)), below_drewN S2.b nq⟩
        | true =>
          go_quiet ((go_at_call 40; exact quietL (W1.out _)))
          have S3 := S2.drewN nq
          clear d0 d1 d2 c4 c0
          have d0 := S3.c 0 0 rfl rfl
          have d2 := S3.c 0 2 rfl rfl
          have c0 := S3.c 1 0 rfl rfl
          clear S2
          generalize w2.drewN nq = w3 at *
          replace hb1 := wiB_t hb1
          by_cases hto : x.1 = o
          · go_wp2_with fail
            go_ret
            exact ⟨ret_bool (hbad.out (fun h => h.2.1 hto)), S3.b⟩
          go_wp2_with fail
          (with_reducible refine (within_any _ _ _ _).mono ?_)
          rintro e w4 ⟨rfl, rfl⟩
          rcases hb2 : wiB x.1 0 63 with _ | _
          · have := wiB_f hb2
            go_wp2_with fail
            go_ret
            exact ⟨ret_bool (hbad.out (fun h => by have := h.2.2.1; omega)), S3.b⟩
          replace hb2 := wiB_t hb2
          go_wp2_with fail
          (with_reducible refine (within_any _ _ _ _).mono ?_)
          rintro e w4 ⟨rfl, rfl⟩
          rcases hb3 : wiB x.2.2 1 65535 with _ | _
          · have := wiB_f hb3
            go_wp2_with fail
            go_ret
            exact ⟨ret_bool (hbad.out (fun h => by have := h.2.2.2.1; omega)), S3.b⟩
          replace hb3 := wiB_t hb3
          go_wp2_with fail
          go_round
          case rel => exact ⟨k + 1, by go_num, by omega, hgo.out ⟨hb1, hto, hb2, hb3, hbef⟩, S3.keepBoxes _ (by simp)⟩
          case measure => simp [intOf]; omega
      · obtain ⟨j, hj⟩ : ∃ j, j + 1 = k := ⟨k - 1, by omega⟩
        have hd : decide ((0 : Int) < (k : Int)) = true := by simp; omega
        have hw : IntKind.i64.wrap ((k : Int) - 1) = (j : Int) := by rw [show (k : Int) - 1 = (j : Int) by omega]; rw [IntKind.wrap_i64]; omega
        have hjn : j < n := by omega
        obtain ⟨y, hy⟩ : ∃ y, adj[j]'(by omega) = y := ⟨_, rfl⟩
        have hy' : adj[k - 1]? = some y := by rw [← hj, Nat.add_sub_cancel, List.getElem?_eq_getElem (by omega), hy]
        obtain ⟨_, y1, _⟩ := hcells j (by omega)
        rw [hy] at y1
        have y1 := cell_later (show Below wr.heap.size wr w2 from hbw) y1
        by_cases hlt : y.2.1 < x.2.1
        · have hbef : ∀ y, 0 < k → adj[k - 1]? = some y → y.2.1 < x.2.1 := fun z _ h => by rw [hy'] at h; injection h with h; rw [← h]; exact hlt
          have hd2 : decide (x.2.1 ≤ y.2.1) = false := by simp; omega
          cases b1 with
          | false =>
            go_quiet ((go_at_call 40; exact quietL (W1.out _)))
            go_wp2_with fail
            go_ret
            exact ⟨ret_bool (hbad.out (fun h => by have := wiB_f hb1; omega)), below_drewN S2.b nq⟩
          | true =>
            go_quiet ((go_at_call 40; exact quietL (W1.out _)))
            have S3 := S2.drewN nq
            clear d0 d1 d2 c4 c0
            have d0 := S3.c 0 0 rfl rfl
            have d2 := S3.c 0 2 rfl rfl
            have c0 := S3.c 1 0 rfl rfl
            clear S2
            generalize w2.drewN nq = w3 at *
            replace hb1 := wiB_t hb1
            by_cases hto : x.1 = o
            · go_wp2_with fail
              go_ret
              exact ⟨ret_bool (hbad.out (fun h => h.2.1 hto)), S3.b⟩
            go_wp2_with fail
            (with_reducible refine (within_any _ _ _ _).mono ?_)
            rintro e w4 ⟨rfl, rfl⟩
            rcases hb2 : wiB x.1 0 63 with _ | _
            · have := wiB_f hb2
              go_wp2_with fail
              go_ret
              exact ⟨ret_bool (hbad.out (fun h => by have := h.2.2.1; omega)), S3.b⟩
            replace hb2 := wiB_t hb2
            go_wp2_with fail
            (with_reducible refine (within_any _ _ _ _).mono ?_)
            rintro e w4 ⟨rfl, rfl⟩
            rcases hb3 : wiB x.2.2 1 65535 with _ | _
            · have := wiB_f hb3
              go_wp2_with fail
              go_ret
              exact ⟨ret_bool (hbad.out (fun h => by have := h.2.2.2.1; omega)), S3.b⟩
            replace hb3 := wiB_t hb3
            go_wp2_with fail
            go_round
            case rel => exact ⟨k + 1, by go_num, by omega, hgo.out ⟨hb1, hto, hb2, hb3, hbef⟩, S3.keepBoxes _ (by simp)⟩
            case measure => simp [intOf]; omega
        · have hd2 : decide (x.2.1 ≤ y.2.1) = true := by simp; omega
          go_quiet ((go_at_call 40; exact quietL (W1.out _)))
          go_wp2_with fail
          go_ret
          exact ⟨ret_bool (hbad.out (fun h => by have := h.2.2.2.2 y hkp hy'; omega)), below_drewN S2.b nq⟩
    · obtain rfl : k = n := by omega
      have c5 := S.c 0 5 rfl rfl
      go_wp2_with fail
      clear c5
      go_loopw [101] (fun v101 wr => ∃ i : Nat, v101 = .int .i64 i ∧ i ≤ m ∧ Hid (PfGood pre i) ∧ St w wr [(w.heap.size, [.int .i64 o, .int .i64 s, .int .i64 a, .bool ov, .slice A k c, .slice B m d])] [(A, adV adj), (B, pfV pre)]) (fun v101 _ => m - (intOf v101).toNat)
      case atStart => exact ⟨0, rfl, by omega, fun k x hk => absurd hk (by omega), S⟩
      case round =>
        clear S
        obtain ⟨i, rfl, hi, hpg, S⟩ := hrel
        by_cases him : i < m
        · obtain ⟨b, off, rfl, hcells⟩ := rd_pf (S.r 1 rfl) (by omega)
          have c5 := S.c 0 5 rfl rfl
          obtain ⟨x0, x1⟩ := hcells i (by omega)
          obtain ⟨x, hx⟩ : ∃ x, pre[i]'(by omega) = x := ⟨_, rfl⟩
          rw [hx] at x0 x1
          have hx' : pre[i]? = some x := by rw [List.getElem?_eq_getElem (by omega), hx]
          have hxl : x.1 < 4294967296 := hu.out x (List.mem_of_getElem? hx')
          have hbad : Hid (¬ (pfxB x.1 x.2 = true ∧ (∀ y, 0 < i → pre[i - 1]? = some y → cmpP y.1 y.2 x.1 x.2 < 0)) → false = vB ⟨o, s, a, ov, adj, pre⟩) := fun h => hL.out false (fun e => by cases e) (fun _ e => h (e.2 i x him hx'))
          have hgo : Hid (pfxB x.1 x.2 = true ∧ (∀ y, 0 < i → pre[i - 1]? = some y → cmpP y.1 y.2 x.1 x.2 < 0) → PfGood pre (i + 1)) := fun h => hpg.out.snoc hx' h.1 h.2
          clear hpg
          go_wp2_with fail
          have S2 := S.new #[.int .u32 (x.1 : Int), .int .i64 x.2] 108
          have hbw := below_new' wr (.cells #[.int .u32 (x.1 : Int), .int .i64 x.2] 108)
          clear c5 x0 x1
          generalize wr.alloc (.cells #[.int .u32 (x.1 : Int), .int .i64 x.2] 108) = w2 at *
          generalize hg2 : wr.heap.size = g2 at S2 ⊢
          have d0 := cell_regrown (S2.c 0 0 rfl rfl)
          have d1 := cell_regrown (S2.c 0 1 rfl rfl)
          have c5 := cell_regrown (S2.c 1 5 rfl rfl)
          have V : Hid (∀ W, Calls Try.prog 41 #[.agg #[.int .u32 (x.1 : Int), .int .i64 x.2]] W fun e w' => e = .returned (.bool (pfxB x.1 x.2)) ∧ Below W.heap.size W w') := fun W => pvalid_any x.1 x.2 hxl W
          obtain ⟨b1, hb1⟩ : ∃ b1, pfxB x.1 x.2 = b1 := ⟨_, rfl⟩
          rw [hb1] at V
          cases b1 with
          | false =>
            refine wp_region_quiet_below (by kernel_rfl) (by kernel_rfl) ?_
            repeat (go_big_quiet_step (first
              | (go_at_call 41; with_reducible exact Calls.regrown_of (V.out _))))
            refine wpQuiet_nil ?_
            intro _ hw'
            obtain ⟨⟨dq, osq⟩, hw''⟩ := hw'
            subst hw''
            go_wp2_with fail
            go_ret
            exact ⟨ret_bool (hbad.out (fun h => by rw [hb1] at h; cases h.1)), S2.b.trans ((below_regrown _ dq osq).mono S2.b.size)⟩
          | true =>
            rcases Nat.eq_zero_or_pos i with hk0 | hkp
            · have hd : decide ((0 : Int) < (i : Int)) = false := by simp [hk0]
              have hbef : ∀ y, 0 < i → pre[i - 1]? = some y → cmpP y.1 y.2 x.1 x.2 < 0 := fun y h => absurd h (by omega)
              refine wp_region_quiet_below (by kernel_rfl) (by kernel_rfl) ?_
              repeat (go_big_quiet_step (first
                | (go_at_call 41; with_reducible exact Calls.regrown_of (V.out _))))
              refine wpQuiet_nil ?_
              intro _ hw'
              obtain ⟨⟨dq, osq⟩, hw''⟩ := hw'
              subst hw''
              go_wp2_with fail
              go_round
              case rel => exact ⟨i + 1, by go_num, by omega, hgo.out ⟨hb1, hbef⟩, (S2.call (below_regrown _ dq osq)).keepBoxes _ (by simp)⟩
              case measure => simp [intOf]; omega
            · obtain ⟨j, hj⟩ : ∃ j, j + 1 = i := ⟨i - 1, by omega⟩
              have hd : decide ((0 : Int) < (i : Int)) = true := by simp; omega
              have hw : IntKind.i64.wrap ((i : Int) - 1) = (j : Int) := by rw [show (i : Int) - 1 = (j : Int) by omega]; rw [IntKind.wrap_i64]; omega
              have hjm : j < m := by omega
              obtain ⟨y, hy⟩ : ∃ y, pre[j]'(by omega) = y := ⟨_, rfl⟩
              have hy' : pre[i - 1]? = some y := by rw [← hj, Nat.add_sub_cancel, List.getElem?_eq_getElem (by omega), hy]
              obtain ⟨y0, y1⟩ := hcells j (by omega)
              rw [hy] at y0 y1
              have y0 := cell_regrown (cell_later (show Below wr.heap.size wr w2 from hbw) y0)
              have y1 := cell_regrown (cell_later (show Below wr.heap.size wr w2 from hbw) y1)
              by_cases hlt : cmpP y.1 y.2 x.1 x.2 < 0
              · have hbef : ∀ y, 0 < i → pre[i - 1]? = some y → cmpP y.1 y.2 x.1 x.2 < 0 := fun z _ h => by rw [hy'] at h; injection h with h; rw [← h]; exact hlt
                have hd2 : decide (0 ≤ cmpP y.1 y.2 x.1 x.2) = false := by simp; omega
                refine wp_region_quiet_below (by kernel_rfl) (by kernel_rfl) ?_
                repeat (go_big_quiet_step (first
                  | (go_at_call 41; with_reducible exact Calls.regrown_of (V.out _))
                  | (go_at_call 42; with_reducible exact Calls.regrown_of (pcompare_any _ _ _ _ _))))
                refine wpQuiet_nil ?_
                intro _ hw'
                obtain ⟨⟨dq, osq⟩, hw''⟩ := hw'
                subst hw''
                go_wp2_with fail
                go_round
                case rel => exact ⟨i + 1, by go_num, by omega, hgo.out ⟨hb1, hbef⟩, (S2.call (below_regrown _ dq osq)).keepBoxes _ (by simp)⟩
                case measure => simp [intOf]; omega
              · have hd2 : decide (0 ≤ cmpP y.1 y.2 x.1 x.2) = true := by simp; omega
                refine wp_region_quiet_below (by kernel_rfl) (by kernel_rfl) ?_
                repeat (go_big_quiet_step (first
                  | (go_at_call 41; with_reducible exact Calls.regrown_of (V.out _))
                  | (go_at_call 42; with_reducible exact Calls.regrown_of (pcompare_any _ _ _ _ _))))
                refine wpQuiet_nil ?_
                intro _ hw'
                obtain ⟨⟨dq, osq⟩, hw''⟩ := hw'
                subst hw''
                go_wp2_with fail
                go_ret
                exact ⟨ret_bool (hbad.out (fun h => by have := h.2 y hkp hy'; omega)), S2.b.trans ((below_regrown _ dq osq).mono S2.b.size)⟩
        · obtain rfl : i = m := by omega
          go_wp2_with fail
          go_ret
          exact ⟨ret_bool (hL.out true (fun _ => ⟨hgood.out, hpg.out⟩) (fun e => by cases e)), S.b⟩

end Go.Proofs.Ytnfldccaeibcpaa
