/-
  The contract of the reference's Valid. Printed by wip/tools/gen32v.py.
-/
import Derived.Test.YtnfldccaeibcpaaValW
import Derived.Test.YtnfldccaeibcpaaPfxR
namespace Go.Proofs.Ytnfldccaeibcpaa
set_option linter.unusedVariables false
open Go.RowKit Go.Sort

theorem cmpP_lt {x l y m : Int} : cmpP x l y m < 0 ↔ (x < y ∨ x = y ∧ l < m) := by
  unfold cmpP orI cmpI
  repeat' split
  all_goals omega

set_option maxRecDepth 100000 in
set_option maxHeartbeats 16000000 in
theorem rvalid_any (o s a : Int) (ov : Bool) (adj : List Ad) (pre : List Pf) (A : Option Addr) (n c : Nat) (B : Option Addr) (m d : Nat) (w : World) (hn : adj.length = n) (hm : pre.length = m) (hnn : n ≤ 9223372036854775807) (hmm : m ≤ 9223372036854775807) (hA : Rd w A (adV adj)) (hB : Rd w B (pfV pre)) (hu : ∀ x ∈ pre, x.1 < 4294967296) :
    Calls Try.prog 17 #[laV o s a ov A n c B m d] w fun e w' => e = .returned (.bool (vB ⟨o, s, a, ov, adj, pre⟩)) ∧ Below w.heap.size w w' := by
  obtain ⟨R, hR⟩ : ∃ R, vB ⟨o, s, a, ov, adj, pre⟩ = R := ⟨_, rfl⟩
  rw [hR]
  replace hR := Lib.hid hR
  have S := Box.new w #[.int .i64 o, .int .i64 s, .int .i64 a, .bool ov, .slice A n c, .slice B m d] 45
  have c0 := S.c 0 rfl
  have c1 := S.c 1 rfl
  have c2 := S.c 2 rfl
  have c3 := S.c 3 rfl
  have c4 := S.c 4 rfl
  have c5 := S.c 5 rfl
  clear S
  replace hu := Lib.hid hu
  have S0 : St w (w.alloc (laB o s a ov A n c B m d)) [(w.heap.size, [.int .i64 o, .int .i64 s, .int .i64 a, .bool ov, .slice A n c, .slice B m d])] [(A, adV adj), (B, pfV pre)] := ((((St.start w).read hB).read hA).new #[.int .i64 o, .int .i64 s, .int .i64 a, .bool ov, .slice A n c, .slice B m d] 45)
  clear hA hB
  go_enter Try.func17, Try.ntmps17
  go_wp2_with fail
  all_goals first
    | (go_ret; exact ⟨ret_bool ((vB_f (fun h => by obtain ⟨h1, h2, h3, h4, h5, _⟩ := h; simp only at h1 h2 h3 h4 h5; omega)).symm.trans hR.out), below_new' w _⟩)
    | skip
  have q0 : ¬ o < 0 := by omega
  have q1 : ¬ 63 < o := by omega
  have q2 : ¬ s < 1 := by omega
  have q3 : ¬ 1073741824 < s := by omega
  have q4 : ¬ a < 0 := by omega
  have q5 : ¬ 3600 < a := by omega
  have q6 : ¬ 256 < n := by omega
  have q7 : ¬ 64 < m := by omega
  have hL : Hid (∀ b, (b = true → (AdGood o adj n ∧ PfGood pre m) ∧ (a = 3600 → ov = false ∧ n = 0 ∧ m = 0)) → (b = false → ¬ ((AdGood o adj n ∧ PfGood pre m) ∧ (a = 3600 → ov = false ∧ n = 0 ∧ m = 0))) → b = R) := by
    intro b h1 h2
    cases b with
    | true =>
      obtain ⟨⟨g1, g2⟩, g3⟩ := h1 rfl
      exact (vB_t ⟨⟨by simp only; omega, by simp only; omega⟩, ⟨by simp only; omega, by simp only; omega⟩, ⟨by simp only; omega, by simp only; omega⟩, by simp only; omega, by simp only; omega, fun e => ⟨(g3 e).1, List.eq_nil_of_length_eq_zero (by have := (g3 e).2.1; simp only; omega), List.eq_nil_of_length_eq_zero (by have := (g3 e).2.2; simp only; omega)⟩, by simp only; rw [hn]; exact g1, by simp only; rw [hm]; exact g2⟩).symm.trans hR.out
    | false => exact (vB_f (fun h => h2 rfl (by
        obtain ⟨_, _, _, _, _, e3, e1, e2⟩ := h
        simp only [hn, hm] at e1 e2
        refine ⟨⟨e1, e2⟩, fun e => ?_⟩
        obtain ⟨f1, f2, f3⟩ := e3 e
        simp only at f1 f2 f3
        subst f2 f3
        exact ⟨f1, hn.symm, hm.symm⟩))).symm.trans hR.out
  clear q0 q1 q2 q3 q4 q5 q6 q7
  replace hn := Lib.hid hn
  replace hm := Lib.hid hm
  generalize w.alloc (.cells #[.int .i64 o, .int .i64 s, .int .i64 a, .bool ov, .slice A n c, .slice B m d] 45) = w1 at *
  clear c0 c1 c2 c3 c4 c5
  go_loopw [3] (fun v3 wr => ∃ k : Nat, v3 = .int .i64 k ∧ k ≤ n ∧ Hid (AdGood o adj k) ∧ St w wr [(w.heap.size, [.int .i64 o, .int .i64 s, .int .i64 a, .bool ov, .slice A n c, .slice B m d])] [(A, adV adj), (B, pfV pre)]) (fun v3 _ => n - (intOf v3).toNat)
  case atStart => exact ⟨0, rfl, by omega, fun k x hk => absurd hk (by omega), S0⟩
  case round =>
    obtain ⟨k, rfl, hk, hgood, S⟩ := hrel
    clear S0
    by_cases hkn : k < n
    · obtain ⟨b, off, rfl, hcells⟩ := rd_ad (S.r 0 rfl) (by have := hn.out; omega)
      have c4 := S.c 0 4 rfl rfl
      have hkl : k < adj.length := by have := hn.out; omega
      obtain ⟨x0, x1, x2⟩ := hcells k hkl
      obtain ⟨x, hx⟩ : ∃ x, adj[k]'hkl = x := ⟨_, rfl⟩
      rw [hx] at x0 x1 x2
      have hx' : adj[k]? = some x := by rw [List.getElem?_eq_getElem hkl, hx]
      have hbad : Hid (¬ ((0 ≤ x.2.1 ∧ x.2.1 ≤ 255) ∧ x.1 ≠ o ∧ (0 ≤ x.1 ∧ x.1 ≤ 63) ∧ (1 ≤ x.2.2 ∧ x.2.2 ≤ 65535) ∧ (∀ y, 0 < k → adj[k - 1]? = some y → y.2.1 < x.2.1)) → false = R) := fun h => hL.out false (fun e => by cases e) (fun _ e => h (e.1.1 k x hkn hx'))
      have hgo : Hid ((0 ≤ x.2.1 ∧ x.2.1 ≤ 255) ∧ x.1 ≠ o ∧ (0 ≤ x.1 ∧ x.1 ≤ 63) ∧ (1 ≤ x.2.2 ∧ x.2.2 ≤ 65535) ∧ (∀ y, 0 < k → adj[k - 1]? = some y → y.2.1 < x.2.1) → AdGood o adj (k + 1)) := fun h => hgood.out.snoc hx' h.1 h.2.1 h.2.2.1 h.2.2.2.1 h.2.2.2.2
      clear hgood
      replace hx := Lib.hid hx
      replace hx' := Lib.hid hx'
      replace hcells := Lib.hid hcells
      go_wp2_with fail
      have S2 := S.new #[.int .i64 x.1, .int .i64 x.2.1, .int .i64 x.2.2] 105
      have hbw := below_new' wr (.cells #[.int .i64 x.1, .int .i64 x.2.1, .int .i64 x.2.2] 105)
      clear c4 x0 x1 x2
      generalize wr.alloc (.cells #[.int .i64 x.1, .int .i64 x.2.1, .int .i64 x.2.2] 105) = w2 at *
      generalize hg2 : wr.heap.size = g2 at S2 ⊢
      have d0 := S2.c 0 0 rfl rfl
      have d1 := S2.c 0 1 rfl rfl
      have d2 := S2.c 0 2 rfl rfl
      have c4 := S2.c 1 4 rfl rfl
      have c0 := S2.c 1 0 rfl rfl
      by_cases p0 : x.2.1 < 0
      · have e0 : decide (x.2.1 < 0) = true := by simpa using p0
        replace p0 := Lib.hid p0
        go_quiet (fail)
        go_wp2_with fail
        go_ret
        exact ⟨ret_bool (hbad.out (fun h => by have p0 := p0.out; have := h.1; omega)), below_drewN S2.b nq⟩
      have e0 : decide (x.2.1 < 0) = false := by simpa using p0
      by_cases p1 : 255 < x.2.1
      · have e1 : decide (255 < x.2.1) = true := by simpa using p1
        replace p1 := Lib.hid p1
        go_quiet (fail)
        go_wp2_with fail
        go_ret
        exact ⟨ret_bool (hbad.out (fun h => by have p1 := p1.out; have := h.1; omega)), below_drewN S2.b nq⟩
      have e1 : decide (255 < x.2.1) = false := by simpa using p1
      by_cases p2 : x.1 < 0
      · have e2 : decide (x.1 < 0) = true := by simpa using p2
        replace p2 := Lib.hid p2
        go_quiet (fail)
        go_wp2_with fail
        go_ret
        exact ⟨ret_bool (hbad.out (fun h => by have p2 := p2.out; have := h.2.2.1; omega)), below_drewN S2.b nq⟩
      have e2 : decide (x.1 < 0) = false := by simpa using p2
      by_cases p3 : 63 < x.1
      · have e3 : decide (63 < x.1) = true := by simpa using p3
        replace p3 := Lib.hid p3
        go_quiet (fail)
        go_wp2_with fail
        go_ret
        exact ⟨ret_bool (hbad.out (fun h => by have p3 := p3.out; have := h.2.2.1; omega)), below_drewN S2.b nq⟩
      have e3 : decide (63 < x.1) = false := by simpa using p3
      by_cases p4 : x.1 = o
      · have e4 : (x.1 == o) = true := by simpa using p4
        replace p4 := Lib.hid p4
        go_quiet (fail)
        go_wp2_with fail
        go_ret
        exact ⟨ret_bool (hbad.out (fun h => by have p4 := p4.out; exact h.2.1 p4)), below_drewN S2.b nq⟩
      have e4 : (x.1 == o) = false := by simpa using p4
      by_cases p5 : x.2.2 < 1
      · have e5 : decide (x.2.2 < 1) = true := by simpa using p5
        replace p5 := Lib.hid p5
        go_quiet (fail)
        go_wp2_with fail
        go_ret
        exact ⟨ret_bool (hbad.out (fun h => by have p5 := p5.out; have := h.2.2.2.1; omega)), below_drewN S2.b nq⟩
      have e5 : decide (x.2.2 < 1) = false := by simpa using p5
      by_cases p6 : 65535 < x.2.2
      · have e6 : decide (65535 < x.2.2) = true := by simpa using p6
        replace p6 := Lib.hid p6
        go_quiet (fail)
        go_wp2_with fail
        go_ret
        exact ⟨ret_bool (hbad.out (fun h => by have p6 := p6.out; have := h.2.2.2.1; omega)), below_drewN S2.b nq⟩
      have e6 : decide (65535 < x.2.2) = false := by simpa using p6
      rcases Nat.eq_zero_or_pos k with hk0 | hkp
      · have hd : decide ((0 : Int) < (k : Int)) = false := by simp [hk0]
        have hbef : ∀ y, 0 < k → adj[k - 1]? = some y → y.2.1 < x.2.1 := fun y h => absurd h (by omega)
        go_quiet (fail)
        go_wp2_with fail
        go_round
        case rel => exact ⟨k + 1, by go_num, by omega, hgo.out ⟨by omega, p4, by omega, by omega, hbef⟩, (S2.drewN nq).keepBoxes _ (by simp)⟩
        case measure => simp [intOf]; omega
      · obtain ⟨j, hj⟩ : ∃ j, j + 1 = k := ⟨k - 1, by omega⟩
        have hd : decide ((0 : Int) < (k : Int)) = true := by simp; omega
        have hw : IntKind.i64.wrap ((k : Int) - 1) = (j : Int) := by rw [show (k : Int) - 1 = (j : Int) by omega]; rw [IntKind.wrap_i64]; omega
        have hjn : j < n := by omega
        obtain ⟨y, hy⟩ : ∃ y, adj[j]'(by have := hn.out; omega) = y := ⟨_, rfl⟩
        have hy' : adj[k - 1]? = some y := by rw [← hj, Nat.add_sub_cancel, List.getElem?_eq_getElem (by have := hn.out; omega), hy]
        obtain ⟨_, y1, _⟩ := hcells.out j (by have := hn.out; omega)
        rw [hy] at y1
        have y1 := cell_later (show Below wr.heap.size wr w2 from hbw) y1
        by_cases hlt : y.2.1 < x.2.1
        · have hbef : ∀ y, 0 < k → adj[k - 1]? = some y → y.2.1 < x.2.1 := fun z _ h => by rw [hy'] at h; injection h with h; rw [← h]; exact hlt
          have hd2 : decide (x.2.1 ≤ y.2.1) = false := by simp; omega
          go_quiet (fail)
          go_wp2_with fail
          go_round
          case rel => exact ⟨k + 1, by go_num, by omega, hgo.out ⟨by omega, p4, by omega, by omega, hbef⟩, (S2.drewN nq).keepBoxes _ (by simp)⟩
          case measure => simp [intOf]; omega
        · have hd2 : decide (x.2.1 ≤ y.2.1) = true := by simp; omega
          go_quiet (fail)
          go_wp2_with fail
          go_ret
          exact ⟨ret_bool (hbad.out (fun h => by have := h.2.2.2.2 y hkp hy'; omega)), below_drewN S2.b nq⟩
    · obtain rfl : k = n := by omega
      have c4 := S.c 0 4 rfl rfl
      go_wp2_with fail
      clear c4
      go_loopw [5] (fun v101 wr => ∃ i : Nat, v101 = .int .i64 i ∧ i ≤ m ∧ Hid (PfGood pre i) ∧ St w wr [(w.heap.size, [.int .i64 o, .int .i64 s, .int .i64 a, .bool ov, .slice A k c, .slice B m d])] [(A, adV adj), (B, pfV pre)]) (fun v101 _ => m - (intOf v101).toNat)
      case atStart => exact ⟨0, rfl, by omega, fun k x hk => absurd hk (by omega), S⟩
      case round =>
        clear S
        obtain ⟨i, rfl, hi, hpg, S⟩ := hrel
        by_cases him : i < m
        · obtain ⟨b, off, rfl, hcells⟩ := rd_pf (S.r 1 rfl) (by have := hm.out; omega)
          have c5 := S.c 0 5 rfl rfl
          have hil : i < pre.length := by have := hm.out; omega
          obtain ⟨x0, x1⟩ := hcells i hil
          obtain ⟨x, hx⟩ : ∃ x, pre[i]'hil = x := ⟨_, rfl⟩
          rw [hx] at x0 x1
          have hx' : pre[i]? = some x := by rw [List.getElem?_eq_getElem hil, hx]
          have hxl : x.1 < 4294967296 := hu.out x (List.mem_of_getElem? hx')
          have hbad : Hid (¬ (pfxB x.1 x.2 = true ∧ (∀ y, 0 < i → pre[i - 1]? = some y → cmpP y.1 y.2 x.1 x.2 < 0)) → false = R) := fun h => hL.out false (fun e => by cases e) (fun _ e => h (e.1.2 i x him hx'))
          have hgo : Hid (pfxB x.1 x.2 = true ∧ (∀ y, 0 < i → pre[i - 1]? = some y → cmpP y.1 y.2 x.1 x.2 < 0) → PfGood pre (i + 1)) := fun h => hpg.out.snoc hx' h.1 h.2
          clear hpg
          replace hx := Lib.hid hx
          replace hx' := Lib.hid hx'
          replace hcells := Lib.hid hcells
          go_wp2_with fail
          have S2 := S.new #[.int .u32 (x.1 : Int), .int .i64 x.2] 108
          have hbw := below_new' wr (.cells #[.int .u32 (x.1 : Int), .int .i64 x.2] 108)
          clear c5 x0 x1
          generalize wr.alloc (.cells #[.int .u32 (x.1 : Int), .int .i64 x.2] 108) = w2 at *
          generalize hg2 : wr.heap.size = g2 at S2 ⊢
          have V := rprefix_any x.1 x.2 hxl w2
          obtain ⟨b1, hb1⟩ : ∃ b1, pfxB x.1 x.2 = b1 := ⟨_, rfl⟩
          rw [hb1] at V
          (with_reducible refine V.mono ?_)
          rintro e w3 ⟨rfl, hb3⟩
          have S3 := S2.call hb3
          clear V
          cases b1 with
          | false =>
            go_wp2_with fail
            go_ret
            exact ⟨ret_bool (hbad.out (fun h => by rw [hb1] at h; cases h.1)), S3.b⟩
          | true =>
            replace hb1 := Lib.hid hb1
            go_wp2_with fail
            have d0 := S3.c 0 0 rfl rfl
            have d1 := S3.c 0 1 rfl rfl
            have c5 := S3.c 1 5 rfl rfl
            rcases Nat.eq_zero_or_pos i with hk0 | hkp
            · have hd : decide ((0 : Int) < (i : Int)) = false := by simp [hk0]
              have hbef : ∀ y, 0 < i → pre[i - 1]? = some y → cmpP y.1 y.2 x.1 x.2 < 0 := fun y h => absurd h (by omega)
              replace hbef := Lib.hid hbef
              go_quiet (fail)
              go_wp2_with fail
              go_round
              case rel => exact ⟨i + 1, by go_num, by omega, hgo.out ⟨hb1.out, hbef.out⟩, (S3.drewN nq).keepBoxes _ (by simp)⟩
              case measure => simp [intOf]; omega
            · obtain ⟨j, hj⟩ : ∃ j, j + 1 = i := ⟨i - 1, by omega⟩
              have hd : decide ((0 : Int) < (i : Int)) = true := by simp; omega
              have hw : IntKind.i64.wrap ((i : Int) - 1) = (j : Int) := by rw [show (i : Int) - 1 = (j : Int) by omega]; rw [IntKind.wrap_i64]; omega
              have hjm : j < m := by omega
              have hjl : j < pre.length := by have := hm.out; omega
              obtain ⟨y, hy⟩ : ∃ y, pre[j]'hjl = y := ⟨_, rfl⟩
              have hy' : pre[i - 1]? = some y := by rw [← hj, Nat.add_sub_cancel, List.getElem?_eq_getElem hjl, hy]
              obtain ⟨y0, y1⟩ := hcells.out j hjl
              rw [hy] at y0 y1
              have y0 := cell_later (show Below wr.heap.size wr w3 from hbw.trans (hb3.mono hbw.size)) y0
              have y1 := cell_later (show Below wr.heap.size wr w3 from hbw.trans (hb3.mono hbw.size)) y1
              have hbefI : Hid (cmpP y.1 y.2 x.1 x.2 < 0 → ∀ y, 0 < i → pre[i - 1]? = some y → cmpP y.1 y.2 x.1 x.2 < 0) := fun hlt z _ h => by rw [hy'] at h; injection h with h; rw [← h]; exact hlt
              have hbad2 : Hid (¬ (cmpP y.1 y.2 x.1 x.2 < 0) → false = R) := fun h => hbad.out (fun h2 => h (h2.2 y hkp hy'))
              clear hy hy' hb3 hbw S2 hj hbad S
              by_cases p0 : x.1 < y.1
              · have q0 : decide (x.1 < y.1) = true := by simpa using p0
                go_quiet (fail)
                go_wp2_with fail
                go_ret
                have h9 : ¬ cmpP y.1 y.2 x.1 x.2 < 0 := fun h => by have := cmpP_lt.1 h; omega
                exact ⟨ret_bool (hbad2.out (by simpa using h9)), below_drewN S3.b nq⟩
              have q0 : decide (x.1 < y.1) = false := by simpa using p0
              by_cases p1 : x.1 = y.1
              · have q1 : ((x.1 : Int) == (y.1 : Int)) = true := by rw [p1]; exact beq_self_eq_true _
                replace p1 := Lib.hid p1
                by_cases p2 : x.2 ≤ y.2
                · have q2 : decide (x.2 ≤ y.2) = true := by simpa using p2
                  go_quiet (fail)
                  go_wp2_with fail
                  go_ret
                  have h9 : ¬ cmpP y.1 y.2 x.1 x.2 < 0 := fun h => by have := cmpP_lt.1 h; have := p1.out; omega
                  exact ⟨ret_bool (hbad2.out (by simpa using h9)), below_drewN S3.b nq⟩
                · have q2 : decide (x.2 ≤ y.2) = false := by simpa using p2
                  go_quiet (fail)
                  go_wp2_with fail
                  go_round
                  case rel => exact ⟨i + 1, by go_num, by omega, hgo.out ⟨hb1.out, hbefI.out (cmpP_lt.2 (by have := p1.out; omega))⟩, (S3.drewN nq).keepBoxes _ (by simp)⟩
                  case measure => simp [intOf]; omega
              · have q1 : ((x.1 : Int) == (y.1 : Int)) = false := by simp; omega
                go_quiet (fail)
                go_wp2_with fail
                go_round
                case rel => exact ⟨i + 1, by go_num, by omega, hgo.out ⟨hb1.out, hbefI.out (cmpP_lt.2 (by omega))⟩, (S3.drewN nq).keepBoxes _ (by simp)⟩
                case measure => simp [intOf]; omega
        · obtain rfl : i = m := by omega
          have c2 := S.c 0 2 rfl rfl
          have c3 := S.c 0 3 rfl rfl
          have c4 := S.c 0 4 rfl rfl
          have c5 := S.c 0 5 rfl rfl
          replace hgood := Lib.hid hgood.out
          have hF : ¬ (a = 3600 → ov = false ∧ k = 0 ∧ i = 0) → R = false := fun h => (hL.out false (fun e => by cases e) (fun _ e => h e.2)).symm
          have hT : (a = 3600 → ov = false ∧ k = 0 ∧ i = 0) → R = true := fun h => (hL.out true (fun _ => ⟨⟨hgood.out, hpg.out⟩, h⟩) (fun e => by cases e)).symm
          clear hL
          by_cases p0 : a = 3600
          · subst p0
            cases ov with
            | true =>
              obtain rfl : R = false := hF (fun h => by have := (h rfl).1; cases this)
              clear hF hT
              go_wp2_with fail
              go_ret
              exact ⟨rfl, S.b⟩
            | false =>
              rcases Nat.eq_zero_or_pos k with hk0 | hkp
              · subst hk0
                rcases Nat.eq_zero_or_pos i with hi0 | hip
                · subst hi0
                  obtain rfl : R = true := hT (fun _ => ⟨rfl, rfl, rfl⟩)
                  clear hF hT
                  go_wp2_with fail
                  go_ret
                  exact ⟨rfl, S.b⟩
                · have hi0 : ((i : Int) == 0) = false := by simp; omega
                  obtain rfl : R = false := hF (fun h => by have := (h rfl).2.2; omega)
                  clear hF hT
                  go_wp2_with fail
                  go_ret
                  exact ⟨rfl, S.b⟩
              · have hk0 : ((k : Int) == 0) = false := by simp; omega
                obtain rfl : R = false := hF (fun h => by have := (h rfl).2.1; omega)
                clear hF hT
                go_wp2_with fail
                go_ret
                exact ⟨rfl, S.b⟩
          · obtain rfl : R = true := hT (fun h => absurd h p0)
            clear hF hT
            go_wp2_with fail
            go_ret
            exact ⟨rfl, S.b⟩

end Go.Proofs.Ytnfldccaeibcpaa
