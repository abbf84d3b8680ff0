/-
  The contracts of the reference's Few, Contents, Same, Equal, sign.
-/
import Derived.Test.YtnfldccaeibcpaaTake
import Derived.Test.YtnfldccaeibcpaaEqS
namespace Go.Proofs.Ytnfldccaeibcpaa
set_option linter.unusedVariables false
open Go.RowKit

def fewB (x : La) : Bool := decide (x.adj.length ≤ 300) && decide (x.pre.length ≤ 100)
def conB (x y : La) : Bool := (x.ov == y.ov) && (decide (x.adj = y.adj) && decide (x.pre = y.pre))
theorem conB_iff {x y : La} : conB x y = true ↔ x.ov = y.ov ∧ x.adj = y.adj ∧ x.pre = y.pre := by simp [conB]

set_option maxHeartbeats 800000 in
theorem few_any (w : World) (v : Value) (x : La) (h : LaAt w v x) : Calls Try.prog 16 #[v] w fun e w' => e = .returned (.bool (fewB x)) ∧ Below w.heap.size w w' := by
  obtain ⟨A, c, B, d, rfl, _, _, h1, h2, h3, h4, _⟩ := h
  unfold maxLen at h2 h4
  have hbb := below_new' w (laB x.o x.s x.a x.ov A x.adj.length c B x.pre.length d)
  have S := Box.new w #[.int .i64 x.o, .int .i64 x.s, .int .i64 x.a, .bool x.ov, .slice A x.adj.length c, .slice B x.pre.length d] 45
  have c4 := S.c 4 rfl
  have c5 := S.c 5 rfl
  clear S
  unfold fewB
  generalize x.adj.length = n at *
  generalize x.pre.length = m at *
  by_cases h300 : n ≤ 300
  · rw [decide_eq_true h300, Bool.true_and]
    go_enter Try.func16, Try.ntmps16
    go_wp2_with fail
    go_ret
    exact ⟨ret_bool (by rw [Bool.eq_iff_iff]; simp; omega), hbb⟩
  · rw [decide_eq_false h300, Bool.false_and]
    go_enter Try.func16, Try.ntmps16
    go_wp2_with fail
    go_ret
    exact ⟨rfl, hbb⟩

set_option maxHeartbeats 800000 in
theorem sign_any (z : Int) (w : World) : Calls Try.prog 55 #[.int .i64 z] w fun e w' => e = .returned (.int .i64 (cmpI z 0)) ∧ w = w' := by
  by_cases h1 : z < 0
  · have e : cmpI z 0 = -1 := by unfold cmpI; rw [if_pos h1]
    rw [e]; clear e
    go_enter Try.func55, Try.ntmps55
    go_wp2
    go_ret
    exact ⟨rfl, rfl⟩
  · by_cases h2 : 0 < z
    · have e : cmpI z 0 = 1 := by unfold cmpI; rw [if_neg h1, if_pos h2]
      rw [e]; clear e
      go_enter Try.func55, Try.ntmps55
      go_wp2
      go_ret
      exact ⟨rfl, rfl⟩
    · have e : cmpI z 0 = 0 := by unfold cmpI; rw [if_neg h1, if_neg h2]
      rw [e]; clear e
      go_enter Try.func55, Try.ntmps55
      go_wp2
      go_ret
      exact ⟨rfl, rfl⟩

set_option maxRecDepth 100000 in
set_option maxHeartbeats 3200000 in
theorem contents_ex (o s a : Int) (ov : Bool) (adj : List Ad) (pre : List Pf) (A : Option Addr) (n c : Nat) (B : Option Addr) (m d : Nat)
    (o' s' a' : Int) (ov' : Bool) (adj' : List Ad) (pre' : List Pf) (A' : Option Addr) (n' c' : Nat) (B' : Option Addr) (m' d' : Nat) (w : World)
    (hn : adj.length = n) (hm : pre.length = m) (hA : Rd w A (adV adj)) (hB : Rd w B (pfV pre)) (hn' : adj'.length = n') (hm' : pre'.length = m') (hA' : Rd w A' (adV adj')) (hB' : Rd w B' (pfV pre'))
    (b1 : n ≤ 9223372036854775807) (b2 : m ≤ 9223372036854775807) (b3 : n' ≤ 9223372036854775807) (b4 : m' ≤ 9223372036854775807) :
    Calls Try.prog 39 #[laV o s a ov A n c B m d, laV o' s' a' ov' A' n' c' B' m' d'] w fun e w' => e = .returned (.bool (conB ⟨o, s, a, ov, adj, pre⟩ ⟨o', s', a', ov', adj', pre'⟩)) ∧ Below w.heap.size w w' := by
  have S := ((((((St.start w).read hB').read hA').read hB).read hA).new' #[.int .i64 o, .int .i64 s, .int .i64 a, .bool ov, .slice A n c, .slice B m d] 45 w.heap.size _ rfl rfl).new' #[.int .i64 o', .int .i64 s', .int .i64 a', .bool ov', .slice A' n' c', .slice B' m' d'] 45 (w.heap.size + 1) _ (by simp) rfl
  clear hA hB hA' hB'
  obtain ⟨R, hR⟩ : ∃ R, conB ⟨o, s, a, ov, adj, pre⟩ ⟨o', s', a', ov', adj', pre'⟩ = R := ⟨_, rfl⟩
  rw [hR]
  have hF : (¬ (ov = ov' ∧ adj = adj' ∧ pre = pre')) → R = false := fun h => by
    rw [← hR]
    cases hb : conB ⟨o, s, a, ov, adj, pre⟩ ⟨o', s', a', ov', adj', pre'⟩ with
    | false => rfl
    | true => exact absurd (conB_iff.1 hb) h
  have hT : (ov = ov' ∧ adj = adj' ∧ pre = pre') → R = true := fun h => by rw [← hR]; exact conB_iff.2 h
  clear hR
  replace hF := Lib.hid hF
  replace hT := Lib.hid hT
  by_cases e1 : ov = ov'
  rotate_left
  · have hbb := S.b
    have c3 := S.c 1 3 rfl rfl
    have d3 := S.c 0 3 rfl rfl
    obtain rfl := hF.out (fun h => e1 h.1)
    clear hn hn' hm hm'
    cases ov
    all_goals
      cases ov'
      all_goals
        first
        | exact absurd rfl e1
        | (clear e1
           go_enter Try.func39, Try.ntmps39
           go_wp2_with fail
           go_ret
           exact ⟨rfl, hbb⟩)
  subst e1
  have hbb := S.b
  have c3 := S.c 1 3 rfl rfl
  have d3 := S.c 0 3 rfl rfl
  have c4 := S.c 1 4 rfl rfl
  have d4 := S.c 0 4 rfl rfl
  by_cases e2 : n = n'
  rotate_left
  · obtain rfl := hF.out (fun h => e2 (by rw [← hn, ← hn', h.2.1]))
    have e2b : ((n : Int) != (n' : Int)) = true := by simp; omega
    clear e2 hn hn' hm hm'
    go_enter Try.func39, Try.ntmps39
    go_wp2_with fail
    go_ret
    exact ⟨rfl, hbb⟩
  subst e2
  have c5 := S.c 1 5 rfl rfl
  have d5 := S.c 0 5 rfl rfl
  by_cases e3 : m = m'
  rotate_left
  · obtain rfl := hF.out (fun h => e3 (by rw [← hm, ← hm', h.2.2]))
    have e3b : ((m : Int) != (m' : Int)) = true := by simp; omega
    clear e3 hn hn' hm hm'
    go_enter Try.func39, Try.ntmps39
    go_wp2_with fail
    go_ret
    exact ⟨rfl, hbb⟩
  subst e3
  replace hn := Lib.hid hn
  replace hm := Lib.hid hm
  replace hn' := Lib.hid hn'
  replace hm' := Lib.hid hm'
  go_enter Try.func39, Try.ntmps39
  go_wp2_with fail
  clear hbb c3 d3 c4 d4 c5 d5
  generalize (w.alloc (.cells #[.int .i64 o, .int .i64 s, .int .i64 a, .bool ov, .slice A n c, .slice B m d] 45)).alloc (.cells #[.int .i64 o', .int .i64 s', .int .i64 a', .bool ov, .slice A' n c', .slice B' m d'] 45) = w1 at *
  go_loopw [5] (fun v5 wr => ∃ k : Nat, v5 = .int .i64 k ∧ k ≤ n ∧ Hid (adj.take k = adj'.take k) ∧ St w wr [(w.heap.size + 1, [.int .i64 o', .int .i64 s', .int .i64 a', .bool ov, .slice A' n c', .slice B' m d']), (w.heap.size, [.int .i64 o, .int .i64 s, .int .i64 a, .bool ov, .slice A n c, .slice B m d])] [(A, adV adj), (B, pfV pre), (A', adV adj'), (B', pfV pre')]) (fun v5 _ => n - (intOf v5).toNat)
  case atStart => exact ⟨0, rfl, by omega, rfl, S⟩
  case round =>
    clear S
    obtain ⟨k, rfl, hk, htk, S⟩ := hrel
    have c4 := S.c 1 4 rfl rfl
    have d4 := S.c 0 4 rfl rfl
    by_cases hkn : k < n
    · have hkl : k < adj.length := by have := hn.out; omega
      have hkl' : k < adj'.length := by have := hn'.out; omega
      obtain ⟨b, off, rfl, hc⟩ := rd_ad (S.r 0 rfl) (by omega)
      obtain ⟨b', off', rfl, hc'⟩ := rd_ad (S.r 2 rfl) (by omega)
      obtain ⟨x0, x1, x2⟩ := hc k hkl
      obtain ⟨y0, y1, y2⟩ := hc' k hkl'
      have hs1 := List.take_succ_eq_append_getElem hkl
      have hs2 := List.take_succ_eq_append_getElem hkl'
      have hne : adj[k] ≠ adj'[k] → R = false := fun h => hF.out (fun h2 => h (by have := h2.2.1; subst this; rfl))
      clear hc hc'
      generalize adj[k] = x at *
      generalize adj'[k] = y at *
      obtain ⟨p0, p1, p2⟩ := x
      obtain ⟨q0, q1, q2⟩ := y
      simp only at x0 x1 x2 y0 y1 y2
      have NE := fun W => neq_ad W (p0, p1, p2) (q0, q1, q2)
      have hG := ad_guard
      by_cases e : (p0, p1, p2) = (q0, q1, q2)
      · have htk2 : Hid (adj.take (k + 1) = adj'.take (k + 1)) := by show _ = _; rw [hs1, hs2, htk.out, e]
        rw [decide_eq_true e] at NE
        clear hs1 hs2 hne e
        go_wp2_with fail
        go_quiet (fail)
        go_wp2_with fail
        go_round
        case rel => exact ⟨k + 1, by go_num, by omega, htk2, S.drewN nq⟩
        case measure => simp [intOf]; omega
      · obtain rfl := hne e
        rw [decide_eq_false e] at NE
        clear hs1 hs2 hne e
        go_wp2_with fail
        go_quiet (fail)
        go_wp2_with fail
        go_ret
        exact ⟨rfl, below_drewN S.b nq⟩
    · obtain rfl : k = n := by omega
      have hadj : adj = adj' := by
        have := htk.out
        rwa [List.take_of_length_le (by have := hn.out; omega), List.take_of_length_le (by have := hn'.out; omega)] at this
      replace hadj := Lib.hid hadj
      go_wp2_with fail
      clear c4 d4
      go_loopw [6] (fun v5 wr => ∃ i : Nat, v5 = .int .i64 i ∧ i ≤ m ∧ Hid (pre.take i = pre'.take i) ∧ St w wr [(w.heap.size + 1, [.int .i64 o', .int .i64 s', .int .i64 a', .bool ov, .slice A' k c', .slice B' m d']), (w.heap.size, [.int .i64 o, .int .i64 s, .int .i64 a, .bool ov, .slice A k c, .slice B m d])] [(A, adV adj), (B, pfV pre), (A', adV adj'), (B', pfV pre')]) (fun v5 _ => m - (intOf v5).toNat)
      case atStart => exact ⟨0, rfl, by omega, rfl, S⟩
      case round =>
        clear S
        obtain ⟨i, rfl, hi, htk, S⟩ := hrel
        have c5 := S.c 1 5 rfl rfl
        have d5 := S.c 0 5 rfl rfl
        by_cases him : i < m
        · have hkl : i < pre.length := by have := hm.out; omega
          have hkl' : i < pre'.length := by have := hm'.out; omega
          obtain ⟨b, off, rfl, hc⟩ := rd_pf (S.r 1 rfl) (by omega)
          obtain ⟨b', off', rfl, hc'⟩ := rd_pf (S.r 3 rfl) (by omega)
          obtain ⟨x0, x1⟩ := hc i hkl
          obtain ⟨y0, y1⟩ := hc' i hkl'
          have hs1 := List.take_succ_eq_append_getElem hkl
          have hs2 := List.take_succ_eq_append_getElem hkl'
          have hne : pre[i] ≠ pre'[i] → R = false := fun h => hF.out (fun h2 => h (by have := h2.2.2; subst this; rfl))
          clear hc hc'
          generalize pre[i] = x at *
          generalize pre'[i] = y at *
          obtain ⟨p0, p1⟩ := x
          obtain ⟨q0, q1⟩ := y
          simp only at x0 x1 y0 y1
          have NE := fun W => neq_pf W (p0, p1) (q0, q1)
          have hG := pf_guard
          by_cases e : (p0, p1) = (q0, q1)
          · have htk2 : Hid (pre.take (i + 1) = pre'.take (i + 1)) := by show _ = _; rw [hs1, hs2, htk.out, e]
            rw [decide_eq_true e] at NE
            clear hs1 hs2 hne e
            go_wp2_with fail
            go_quiet (fail)
            go_wp2_with fail
            go_round
            case rel => exact ⟨i + 1, by go_num, by omega, htk2, S.drewN nq⟩
            case measure => simp [intOf]; omega
          · obtain rfl := hne e
            rw [decide_eq_false e] at NE
            clear hs1 hs2 hne e
            go_wp2_with fail
            go_quiet (fail)
            go_wp2_with fail
            go_ret
            exact ⟨rfl, below_drewN S.b nq⟩
        · obtain rfl : i = m := by omega
          have hpre : pre = pre' := by
            have := htk.out
            rwa [List.take_of_length_le (by have := hm.out; omega), List.take_of_length_le (by have := hm'.out; omega)] at this
          obtain rfl := hT.out (by first | exact ⟨rfl, hadj.out, hpre⟩ | exact ⟨trivial, hadj.out, hpre⟩)
          clear hpre
          go_wp2_with fail
          go_ret
          exact ⟨rfl, S.b⟩

theorem contents_any (w : World) (v u : Value) (x y : La) (hx : LaAt w v x) (hy : LaAt w u y) : Calls Try.prog 39 #[v, u] w fun e w' => e = .returned (.bool (conB x y)) ∧ Below w.heap.size w w' := by
  obtain ⟨A, c, B, d, rfl, rA, rB, h1, h2, h3, h4, _⟩ := hx
  obtain ⟨A', c', B', d', rfl, rA', rB', h1', h2', h3', h4', _⟩ := hy
  unfold maxLen at h2 h4 h2' h4'
  exact contents_ex _ _ _ _ _ _ _ _ _ _ _ _ _ _ _ _ _ _ _ _ _ _ _ _ w rfl rfl rA rB rfl rfl rA' rB' (by omega) (by omega) (by omega) (by omega)

end Go.Proofs.Ytnfldccaeibcpaa
