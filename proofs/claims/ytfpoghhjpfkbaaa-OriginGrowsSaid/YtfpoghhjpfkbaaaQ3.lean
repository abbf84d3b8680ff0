/-
  The texts Clone, SmR, SameR, Acc, Beq, EncS, EncP, CodE, one after the other.
-/
import Derived.Test.YtfpoghhjpfkbaaaQ2
namespace Go.Proofs.Ytfpoghhjpfkbaaa
set_option linter.unusedVariables false
open Go.RowKit

def ClonePost (w : World) (T : TypeId) (size n : Nat) (xs : List Value) (e : Ending) (w' : World) : Prop :=
  ∃ A c, e = .returned (.slice A n c) ∧ w'.ownsRow w.heap.size T size (.slice A n c) n xs ∧ Below w.heap.size w w'

set_option maxRecDepth 100000 in
set_option maxHeartbeats 800000 in
theorem clone_ad (w : World) (A : Option Addr) (n c : Nat) (l : List Ad) (hr : Rd w A (adV l)) (hn : l.length = n) (hb : n ≤ 1000000) :
    Calls Try.prog 45 #[.slice A n c] w (ClonePost w 71 3 n (adV l)) := by
  rcases A with _ | ad
  · have h0 := hr.nil_len
    rw [adV_len] at h0
    obtain rfl : l = [] := List.eq_nil_of_length_eq_zero (by omega)
    subst hn
    have hE := fun W => Lib.run_eql_slice_nil W 29 71 none 0 c 0 0 Try.underlying29
    go_enter Try.func45, Try.ntmps45
    go_wp2_with fail
    go_ret
    exact ⟨none, 0, rfl, World.ownsRow_nil _ _ _ _, Below.refl _ _⟩
  · have hl : (adV l).length = n * 3 := by rw [adV_len, hn]
    clear hn
    have hE := fun W => Lib.run_eql_slice_nil W 29 71 (some ad) n c 0 0 Try.underlying29
    go_enter Try.func45, Try.ntmps45
    go_wp2_with (at_builtin; refine wpList_app rfl adT (.tmp 5) (.tmp 6) rfl w.heap.size rfl (own_empty _ _ _) (m := n) rfl hl (hr.below (below_new' _ _)) (adV_one l) (by simp only [maxLen]; omega) (by omega) (by simp) n (adV l) (by omega) (by simp) ?_; intro v' w' ho hb')
    go_ret
    obtain ⟨A', c', rfl, _⟩ := own_rd ho
    exact ⟨A', c', rfl, ho, (below_new' _ _).trans hb'⟩

set_option maxRecDepth 100000 in
set_option maxHeartbeats 800000 in
theorem clone_pf (w : World) (A : Option Addr) (n c : Nat) (l : List Pf) (hr : Rd w A (pfV l)) (hn : l.length = n) (hb : n ≤ 1000000) :
    Calls Try.prog 46 #[.slice A n c] w (ClonePost w 74 2 n (pfV l)) := by
  rcases A with _ | ad
  · have h0 := hr.nil_len
    rw [pfV_len] at h0
    obtain rfl : l = [] := List.eq_nil_of_length_eq_zero (by omega)
    subst hn
    have hE := fun W => Lib.run_eql_slice_nil W 30 74 none 0 c 0 0 Try.underlying30
    go_enter Try.func46, Try.ntmps46
    go_wp2_with fail
    go_ret
    exact ⟨none, 0, rfl, World.ownsRow_nil _ _ _ _, Below.refl _ _⟩
  · have hl : (pfV l).length = n * 2 := by rw [pfV_len, hn]
    clear hn
    have hE := fun W => Lib.run_eql_slice_nil W 30 74 (some ad) n c 0 0 Try.underlying30
    go_enter Try.func46, Try.ntmps46
    go_wp2_with (at_builtin; refine wpList_app rfl pfT (.tmp 5) (.tmp 6) rfl w.heap.size rfl (own_empty _ _ _) (m := n) rfl hl (hr.below (below_new' _ _)) (pfV_one l) (by simp only [maxLen]; omega) (by omega) (by simp) n (pfV l) (by omega) (by simp) ?_; intro v' w' ho hb')
    go_ret
    obtain ⟨A', c', rfl, _⟩ := own_rd ho
    exact ⟨A', c', rfl, ho, (below_new' _ _).trans hb'⟩

set_option maxRecDepth 100000 in
set_option maxHeartbeats 3200000 in
theorem sleq_ad2 (w : World) (A B : Option Addr) (n c m d : Nat) (xs ys : List Ad) (hA : Rd w A (adV xs)) (hB : Rd w B (adV ys)) (hn : xs.length = n) (hm : ys.length = m) (b1 : n ≤ 9223372036854775807) :
    Calls Try.prog 43 #[.slice A n c, .slice B m d] w fun e w' => e = .returned (.bool (decide (xs = ys))) ∧ Below w.heap.size w w' := by
  obtain ⟨R, hR⟩ : ∃ R, decide (xs = ys) = R := ⟨_, rfl⟩
  rw [hR]
  have hF : xs ≠ ys → R = false := fun h => by rw [← hR]; exact decide_eq_false h
  have hT : xs = ys → R = true := fun h => by rw [← hR]; exact decide_eq_true h
  clear hR
  by_cases hnm : n = m
  rotate_left
  · obtain rfl := hF (fun h => hnm (by rw [← hn, ← hm, h]))
    have e2b : ((n : Int) != (m : Int)) = true := by simp; omega
    clear hnm hn hm hF hT
    go_enter Try.func43, Try.ntmps43
    go_wp2_with fail
    go_ret
    exact ⟨rfl, Below.refl _ _⟩
  subst hnm
  have S := ((St.start w).read hB).read hA
  clear hA hB
  replace hn := Lib.hid hn
  replace hm := Lib.hid hm
  replace hF := Lib.hid hF
  replace hT := Lib.hid hT
  go_enter Try.func43, Try.ntmps43
  go_wp2_with fail
  go_loopw [13] (fun v13 wr => ∃ i : Nat, v13 = .int .i64 i ∧ i ≤ n ∧ Hid (xs.take i = ys.take i) ∧ St w wr [] [(A, adV xs), (B, adV ys)]) (fun v13 _ => n - (intOf v13).toNat)
  case atStart => exact ⟨0, rfl, by omega, rfl, S⟩
  case round =>
    clear S
    obtain ⟨i, rfl, hi, htk, S⟩ := hrel
    by_cases him : i < n
    · have hkl : i < xs.length := by have := hn.out; omega
      have hkl' : i < ys.length := by have := hm.out; omega
      obtain ⟨b, off, rfl, hc⟩ := rd_ad (S.r 0 rfl) (by omega)
      obtain ⟨b', off', rfl, hc'⟩ := rd_ad (S.r 1 rfl) (by omega)
      obtain ⟨x0, x1, x2⟩ := hc i hkl
      obtain ⟨y0, y1, y2⟩ := hc' i hkl'
      have hs1 := List.take_succ_eq_append_getElem hkl
      have hs2 := List.take_succ_eq_append_getElem hkl'
      have hne : xs[i] ≠ ys[i] → R = false := fun h => hF.out (fun h2 => h (by subst h2; rfl))
      clear hc hc'
      generalize xs[i] = x at *
      generalize ys[i] = y at *
      obtain ⟨p0, p1, p2⟩ := x
      obtain ⟨q0, q1, q2⟩ := y
      simp only at x0 x1 x2 y0 y1 y2
      have NE := fun W => neq_ad W (p0, p1, p2) (q0, q1, q2)
      have hG := ad_guard
      by_cases e : (p0, p1, p2) = (q0, q1, q2)
      · have htk2 : Hid (xs.take (i + 1) = ys.take (i + 1)) := by show _ = _; rw [hs1, hs2, htk.out, e]
        rw [decide_eq_true e] at NE
        clear hs1 hs2 hne e
        go_wp2_with fail
        go_quiet (fail)
        go_wp2_with fail
        go_round
        case rel => exact ⟨i + 1, by go_num, by omega, htk2, S.drewN nq⟩
        case measure => simp [intOf]; omega
      · obtain rfl := hne e
        rw [decide_eq_false e] at NE
        clear hs1 hs2 hne e
        go_wp2_with fail
        go_quiet (fail)
        go_wp2_with fail
        go_ret
        exact ⟨rfl, below_drewN S.b nq⟩
    · obtain rfl : i = n := by omega
      have heq : xs = ys := by
        have := htk.out
        rwa [List.take_of_length_le (by have := hn.out; omega), List.take_of_length_le (by have := hm.out; omega)] at this
      obtain rfl := hT.out heq
      clear heq
      go_wp2_with fail
      go_ret
      exact ⟨rfl, S.b⟩

end Go.Proofs.Ytfpoghhjpfkbaaa

namespace Go.Proofs.Ytfpoghhjpfkbaaa
set_option linter.unusedVariables false
open Go.RowKit

def fewB (x : La) : Bool := decide (x.adj.length ≤ 300) && decide (x.pre.length ≤ 100)
def conB (x y : La) : Bool := (x.ov == y.ov) && (decide (x.adj = y.adj) && decide (x.pre = y.pre))
theorem conB_iff {x y : La} : conB x y = true ↔ x.ov = y.ov ∧ x.adj = y.adj ∧ x.pre = y.pre := by simp [conB]

set_option maxHeartbeats 800000 in
theorem few_any (w : World) (v : Value) (x : La) (h : LaAt w v x) : Calls Try.prog 22 #[v] w fun e w' => e = .returned (.bool (fewB x)) ∧ Below w.heap.size w w' := by
  obtain ⟨A, c, B, d, rfl, _, _, h1, h2, h3, h4, _⟩ := h
  unfold maxLen at h2 h4
  have hbb := below_new' w (laB x.o x.s x.a x.ov A x.adj.length c B x.pre.length d)
  have S := Box.new w #[.int .i64 x.o, .int .i64 x.s, .int .i64 x.a, .bool x.ov, .slice A x.adj.length c, .slice B x.pre.length d] 32
  have c4 := S.c 4 rfl
  have c5 := S.c 5 rfl
  clear S
  unfold fewB
  generalize x.adj.length = n at *
  generalize x.pre.length = m at *
  by_cases h300 : n ≤ 300
  · rw [decide_eq_true h300, Bool.true_and]
    go_enter Try.func22, Try.ntmps22
    go_wp2_with fail
    go_ret
    exact ⟨ret_bool (by rw [Bool.eq_iff_iff]; simp; omega), hbb⟩
  · rw [decide_eq_false h300, Bool.false_and]
    go_enter Try.func22, Try.ntmps22
    go_wp2_with fail
    go_ret
    exact ⟨rfl, hbb⟩

set_option maxHeartbeats 800000 in
theorem sign_any (z : Int) (w : World) : Calls Try.prog 58 #[.int .i64 z] w fun e w' => e = .returned (.int .i64 (cmpI z 0)) ∧ w = w' := by
  by_cases h1 : z < 0
  · have e : cmpI z 0 = -1 := by unfold cmpI; rw [if_pos h1]
    rw [e]; clear e
    go_enter Try.func58, Try.ntmps58
    go_wp2
    go_ret
    exact ⟨rfl, rfl⟩
  · by_cases h2 : 0 < z
    · have e : cmpI z 0 = 1 := by unfold cmpI; rw [if_neg h1, if_pos h2]
      rw [e]; clear e
      go_enter Try.func58, Try.ntmps58
      go_wp2
      go_ret
      exact ⟨rfl, rfl⟩
    · have e : cmpI z 0 = 0 := by unfold cmpI; rw [if_neg h1, if_neg h2]
      rw [e]; clear e
      go_enter Try.func58, Try.ntmps58
      go_wp2
      go_ret
      exact ⟨rfl, rfl⟩

set_option maxRecDepth 100000 in
set_option maxHeartbeats 3200000 in
theorem contents_ex (o s a : Int) (ov : Bool) (adj : List Ad) (pre : List Pf) (A : Option Addr) (n c : Nat) (B : Option Addr) (m d : Nat)
    (o' s' a' : Int) (ov' : Bool) (adj' : List Ad) (pre' : List Pf) (A' : Option Addr) (n' c' : Nat) (B' : Option Addr) (m' d' : Nat) (w : World)
    (hn : adj.length = n) (hm : pre.length = m) (hA : Rd w A (adV adj)) (hB : Rd w B (pfV pre)) (hn' : adj'.length = n') (hm' : pre'.length = m') (hA' : Rd w A' (adV adj')) (hB' : Rd w B' (pfV pre'))
    (b1 : n ≤ 9223372036854775807) (b2 : m ≤ 9223372036854775807) (b3 : n' ≤ 9223372036854775807) (b4 : m' ≤ 9223372036854775807) :
    Calls Try.prog 25 #[laV o s a ov A n c B m d, laV o' s' a' ov' A' n' c' B' m' d'] w fun e w' => e = .returned (.bool (conB ⟨o, s, a, ov, adj, pre⟩ ⟨o', s', a', ov', adj', pre'⟩)) ∧ Below w.heap.size w w' := by
  have S := ((((((St.start w).read hB').read hA').read hB).read hA).new' #[.int .i64 o, .int .i64 s, .int .i64 a, .bool ov, .slice A n c, .slice B m d] 32 w.heap.size _ rfl rfl).new' #[.int .i64 o', .int .i64 s', .int .i64 a', .bool ov', .slice A' n' c', .slice B' m' d'] 32 (w.heap.size + 1) _ (by simp) rfl
  clear hA hB hA' hB'
  obtain ⟨R, hR⟩ : ∃ R, conB ⟨o, s, a, ov, adj, pre⟩ ⟨o', s', a', ov', adj', pre'⟩ = R := ⟨_, rfl⟩
  rw [hR]
  have hF : (¬ (ov = ov' ∧ adj = adj' ∧ pre = pre')) → R = false := fun h => by
    rw [← hR]
    cases hb : conB ⟨o, s, a, ov, adj, pre⟩ ⟨o', s', a', ov', adj', pre'⟩ with
    | false => rfl
    | true => exact absurd (conB_iff.1 hb) h
  have hT : (ov = ov' ∧ adj = adj' ∧ pre = pre') → R = true := fun h => by rw [← hR]; exact conB_iff.2 h
  clear hR
  replace hF := Lib.hid hF
  replace hT := Lib.hid hT
  by_cases e1 : ov = ov'
  rotate_left
  · have hbb := S.b
    have c3 := S.c 1 3 rfl rfl
    have d3 := S.c 0 3 rfl rfl
    obtain rfl := hF.out (fun h => e1 h.1)
    clear hn hn' hm hm'
    cases ov
    all_goals
      cases ov'
      all_goals
        first
        | exact absurd rfl e1
        | (clear e1
           go_enter Try.func25, Try.ntmps25
           go_wp2_with fail
           go_ret
           exact ⟨rfl, hbb⟩)
  subst e1
  have hbb := S.b
  have c3 := S.c 1 3 rfl rfl
  have d3 := S.c 0 3 rfl rfl
  have c4 := S.c 1 4 rfl rfl
  have d4 := S.c 0 4 rfl rfl
  by_cases e2 : n = n'
  rotate_left
  · obtain rfl := hF.out (fun h => e2 (by rw [← hn, ← hn', h.2.1]))
    have e2b : ((n : Int) != (n' : Int)) = true := by simp; omega
    clear e2 hn hn' hm hm'
    go_enter Try.func25, Try.ntmps25
    go_wp2_with fail
    go_ret
    exact ⟨rfl, hbb⟩
  subst e2
  have c5 := S.c 1 5 rfl rfl
  have d5 := S.c 0 5 rfl rfl
  by_cases e3 : m = m'
  rotate_left
  · obtain rfl := hF.out (fun h => e3 (by rw [← hm, ← hm', h.2.2]))
    have e3b : ((m : Int) != (m' : Int)) = true := by simp; omega
    clear e3 hn hn' hm hm'
    go_enter Try.func25, Try.ntmps25
    go_wp2_with fail
    go_ret
    exact ⟨rfl, hbb⟩
  subst e3
  replace hn := Lib.hid hn
  replace hm := Lib.hid hm
  replace hn' := Lib.hid hn'
  replace hm' := Lib.hid hm'
  go_enter Try.func25, Try.ntmps25
  go_wp2_with fail
  clear hbb c3 d3 c4 d4 c5 d5
  generalize (w.alloc (.cells #[.int .i64 o, .int .i64 s, .int .i64 a, .bool ov, .slice A n c, .slice B m d] 32)).alloc (.cells #[.int .i64 o', .int .i64 s', .int .i64 a', .bool ov, .slice A' n c', .slice B' m d'] 32) = w1 at *
  go_loopw [5] (fun v5 wr => ∃ k : Nat, v5 = .int .i64 k ∧ k ≤ n ∧ Hid (adj.take k = adj'.take k) ∧ St w wr [(w.heap.size + 1, [.int .i64 o', .int .i64 s', .int .i64 a', .bool ov, .slice A' n c', .slice B' m d']), (w.heap.size, [.int .i64 o, .int .i64 s, .int .i64 a, .bool ov, .slice A n c, .slice B m d])] [(A, adV adj), (B, pfV pre), (A', adV adj'), (B', pfV pre')]) (fun v5 _ => n - (intOf v5).toNat)
  case atStart => exact ⟨0, rfl, by omega, rfl, S⟩
  case round =>
    clear S
    obtain ⟨k, rfl, hk, htk, S⟩ := hrel
    have c4 := S.c 1 4 rfl rfl
    have d4 := S.c 0 4 rfl rfl
    by_cases hkn : k < n
    · have hkl : k < adj.length := by have := hn.out; omega
      have hkl' : k < adj'.length := by have := hn'.out; omega
      obtain ⟨b, off, rfl, hc⟩ := rd_ad (S.r 0 rfl) (by omega)
      obtain ⟨b', off', rfl, hc'⟩ := rd_ad (S.r 2 rfl) (by omega)
      obtain ⟨x0, x1, x2⟩ := hc k hkl
      obtain ⟨y0, y1, y2⟩ := hc' k hkl'
      have hs1 := List.take_succ_eq_append_getElem hkl
      have hs2 := List.take_succ_eq_append_getElem hkl'
      have hne : adj[k] ≠ adj'[k] → R = false := fun h => hF.out (fun h2 => h (by have := h2.2.1; subst this; rfl))
      clear hc hc'
      generalize adj[k] = x at *
      generalize adj'[k] = y at *
      obtain ⟨p0, p1, p2⟩ := x
      obtain ⟨q0, q1, q2⟩ := y
      simp only at x0 x1 x2 y0 y1 y2
      have NE := fun W => neq_ad W (p0, p1, p2) (q0, q1, q2)
      have hG := ad_guard
      by_cases e : (p0, p1, p2) = (q0, q1, q2)
      · have htk2 : Hid (adj.take (k + 1) = adj'.take (k + 1)) := by show _ = _; rw [hs1, hs2, htk.out, e]
        rw [decide_eq_true e] at NE
        clear hs1 hs2 hne e
        go_wp2_with fail
        go_quiet (fail)
        go_wp2_with fail
        go_round
        case rel => exact ⟨k + 1, by go_num, by omega, htk2, S.drewN nq⟩
        case measure => simp [intOf]; omega
      · obtain rfl := hne e
        rw [decide_eq_false e] at NE
        clear hs1 hs2 hne e
        go_wp2_with fail
        go_quiet (fail)
        go_wp2_with fail
        go_ret
        exact ⟨rfl, below_drewN S.b nq⟩
    · obtain rfl : k = n := by omega
      have hadj : adj = adj' := by
        have := htk.out
        rwa [List.take_of_length_le (by have := hn.out; omega), List.take_of_length_le (by have := hn'.out; omega)] at this
      replace hadj := Lib.hid hadj
      go_wp2_with fail
      clear c4 d4
      go_loopw [6] (fun v5 wr => ∃ i : Nat, v5 = .int .i64 i ∧ i ≤ m ∧ Hid (pre.take i = pre'.take i) ∧ St w wr [(w.heap.size + 1, [.int .i64 o', .int .i64 s', .int .i64 a', .bool ov, .slice A' k c', .slice B' m d']), (w.heap.size, [.int .i64 o, .int .i64 s, .int .i64 a, .bool ov, .slice A k c, .slice B m d])] [(A, adV adj), (B, pfV pre), (A', adV adj'), (B', pfV pre')]) (fun v5 _ => m - (intOf v5).toNat)
      case atStart => exact ⟨0, rfl, by omega, rfl, S⟩
      case round =>
        clear S
        obtain ⟨i, rfl, hi, htk, S⟩ := hrel
        have c5 := S.c 1 5 rfl rfl
        have d5 := S.c 0 5 rfl rfl
        by_cases him : i < m
        · have hkl : i < pre.length := by have := hm.out; omega
          have hkl' : i < pre'.length := by have := hm'.out; omega
          obtain ⟨b, off, rfl, hc⟩ := rd_pf (S.r 1 rfl) (by omega)
          obtain ⟨b', off', rfl, hc'⟩ := rd_pf (S.r 3 rfl) (by omega)
          obtain ⟨x0, x1⟩ := hc i hkl
          obtain ⟨y0, y1⟩ := hc' i hkl'
          have hs1 := List.take_succ_eq_append_getElem hkl
          have hs2 := List.take_succ_eq_append_getElem hkl'
          have hne : pre[i] ≠ pre'[i] → R = false := fun h => hF.out (fun h2 => h (by have := h2.2.2; subst this; rfl))
          clear hc hc'
          generalize pre[i] = x at *
          generalize pre'[i] = y at *
          obtain ⟨p0, p1⟩ := x
          obtain ⟨q0, q1⟩ := y
          simp only at x0 x1 y0 y1
          have NE := fun W => neq_pf W (p0, p1) (q0, q1)
          have hG := pf_guard
          by_cases e : (p0, p1) = (q0, q1)
          · have htk2 : Hid (pre.take (i + 1) = pre'.take (i + 1)) := by show _ = _; rw [hs1, hs2, htk.out, e]
            rw [decide_eq_true e] at NE
            clear hs1 hs2 hne e
            go_wp2_with fail
            go_quiet (fail)
            go_wp2_with fail
            go_round
            case rel => exact ⟨i + 1, by go_num, by omega, htk2, S.drewN nq⟩
            case measure => simp [intOf]; omega
          · obtain rfl := hne e
            rw [decide_eq_false e] at NE
            clear hs1 hs2 hne e
            go_wp2_with fail
            go_quiet (fail)
            go_wp2_with fail
            go_ret
            exact ⟨rfl, below_drewN S.b nq⟩
        · obtain rfl : i = m := by omega
          have hpre : pre = pre' := by
            have := htk.out
            rwa [List.take_of_length_le (by have := hm.out; omega), List.take_of_length_le (by have := hm'.out; omega)] at this
          obtain rfl := hT.out (by first | exact ⟨rfl, hadj.out, hpre⟩ | exact ⟨trivial, hadj.out, hpre⟩)
          clear hpre
          go_wp2_with fail
          go_ret
          exact ⟨rfl, S.b⟩

theorem contents_any (w : World) (v u : Value) (x y : La) (hx : LaAt w v x) (hy : LaAt w u y) : Calls Try.prog 25 #[v, u] w fun e w' => e = .returned (.bool (conB x y)) ∧ Below w.heap.size w w' := by
  obtain ⟨A, c, B, d, rfl, rA, rB, h1, h2, h3, h4, _⟩ := hx
  obtain ⟨A', c', B', d', rfl, rA', rB', h1', h2', h3', h4', _⟩ := hy
  unfold maxLen at h2 h4 h2' h4'
  exact contents_ex _ _ _ _ _ _ _ _ _ _ _ _ _ _ _ _ _ _ _ _ _ _ _ _ w rfl rfl rA rB rfl rfl rA' rB' (by omega) (by omega) (by omega) (by omega)

end Go.Proofs.Ytfpoghhjpfkbaaa

namespace Go.Proofs.Ytfpoghhjpfkbaaa
set_option linter.unusedVariables false
open Go.RowKit

def sameB (x y : La) : Bool := (x.o == y.o) && ((x.s == y.s) && (((x.a == 3600) == (y.a == 3600)) && conB x y))
def equB (x y : La) : Bool := sameB x y && (x.a == y.a)
def purgeX (x : La) : La := ⟨x.o, x.s, 3600, false, [], []⟩

set_option maxRecDepth 100000 in
set_option maxHeartbeats 3200000 in
theorem rsamela_any (w : World) (v u : Value) (x y : La) (hx : LaAt w v x) (hy : LaAt w u y) : Calls Try.prog 30 #[v, u] w fun e w' => e = .returned (.bool (sameB x y)) ∧ Below w.heap.size w w' := by
  obtain ⟨A, c, B, d, hv, _⟩ := id hx
  obtain ⟨A', c', B', d', hu, _⟩ := id hy
  subst hv hu
  have S := ((St.start w).new' #[.int .i64 x.o, .int .i64 x.s, .int .i64 x.a, .bool x.ov, .slice A x.adj.length c, .slice B x.pre.length d] 32 w.heap.size _ rfl rfl).new' #[.int .i64 y.o, .int .i64 y.s, .int .i64 y.a, .bool y.ov, .slice A' y.adj.length c', .slice B' y.pre.length d'] 32 (w.heap.size + 1) _ (by simp) rfl
  have CO := contents_any _ _ _ x y (hx.below S.b) (hy.below S.b)
  have hbb := S.b
  have c0 := S.c 1 0 rfl rfl
  have c1 := S.c 1 1 rfl rfl
  have c2 := S.c 1 2 rfl rfl
  have c3 := S.c 1 3 rfl rfl
  have c4 := S.c 1 4 rfl rfl
  have c5 := S.c 1 5 rfl rfl
  have d0 := S.c 0 0 rfl rfl
  have d1 := S.c 0 1 rfl rfl
  have d2 := S.c 0 2 rfl rfl
  have d3 := S.c 0 3 rfl rfl
  have d4 := S.c 0 4 rfl rfl
  have d5 := S.c 0 5 rfl rfl
  clear S hx hy
  unfold sameB
  generalize conB x y = cb at *
  generalize x.adj.length = n at *
  generalize x.pre.length = m at *
  generalize y.adj.length = n' at *
  generalize y.pre.length = m' at *
  replace CO := Lib.hid CO
  rcases h1 : (x.o == y.o) with _ | _
  · go_enter Try.func30, Try.ntmps30
    go_wp2_with fail
    go_ret
    exact ⟨rfl, hbb⟩
  rcases h2 : (x.s == y.s) with _ | _
  · go_enter Try.func30, Try.ntmps30
    go_wp2_with fail
    go_ret
    exact ⟨rfl, hbb⟩
  rcases h3 : (x.a == 3600) with _ | _
  · rcases h4 : (y.a == 3600) with _ | _
    · go_enter Try.func30, Try.ntmps30
      go_wp2_with fail
      (with_reducible refine CO.out.mono ?_)
      rintro e w1 ⟨rfl, hb⟩
      cases cb
      all_goals
        go_wp2_with fail
        go_ret
        exact ⟨rfl, hbb.trans (hb.mono hbb.size)⟩
    · go_enter Try.func30, Try.ntmps30
      go_wp2_with fail
      go_ret
      exact ⟨rfl, hbb⟩
  · rcases h4 : (y.a == 3600) with _ | _
    · go_enter Try.func30, Try.ntmps30
      go_wp2_with fail
      go_ret
      exact ⟨rfl, hbb⟩
    · go_enter Try.func30, Try.ntmps30
      go_wp2_with fail
      (with_reducible refine CO.out.mono ?_)
      rintro e w1 ⟨rfl, hb⟩
      cases cb
      all_goals
        go_wp2_with fail
        go_ret
        exact ⟨rfl, hbb.trans (hb.mono hbb.size)⟩

set_option maxRecDepth 100000 in
set_option maxHeartbeats 3200000 in
theorem equal_any (w : World) (v u : Value) (x y : La) (hx : LaAt w v x) (hy : LaAt w u y) : Calls Try.prog 13 #[v, u] w fun e w' => e = .returned (.bool (equB x y)) ∧ Below w.heap.size w w' := by
  obtain ⟨A, c, B, d, hv, _⟩ := id hx
  obtain ⟨A', c', B', d', hu, _⟩ := id hy
  subst hv hu
  have S := ((St.start w).new' #[.int .i64 x.o, .int .i64 x.s, .int .i64 x.a, .bool x.ov, .slice A x.adj.length c, .slice B x.pre.length d] 32 w.heap.size _ rfl rfl).new' #[.int .i64 y.o, .int .i64 y.s, .int .i64 y.a, .bool y.ov, .slice A' y.adj.length c', .slice B' y.pre.length d'] 32 (w.heap.size + 1) _ (by simp) rfl
  have CO := rsamela_any _ _ _ x y (hx.below S.b) (hy.below S.b)
  have c0 := S.c 1 0 rfl rfl
  have c1 := S.c 1 1 rfl rfl
  have c2 := S.c 1 2 rfl rfl
  have c3 := S.c 1 3 rfl rfl
  have c4 := S.c 1 4 rfl rfl
  have c5 := S.c 1 5 rfl rfl
  have d0 := S.c 0 0 rfl rfl
  have d1 := S.c 0 1 rfl rfl
  have d2 := S.c 0 2 rfl rfl
  have d3 := S.c 0 3 rfl rfl
  have d4 := S.c 0 4 rfl rfl
  have d5 := S.c 0 5 rfl rfl
  clear hx hy
  unfold equB
  generalize sameB x y = cb at *
  generalize x.adj.length = n at *
  generalize x.pre.length = m at *
  generalize y.adj.length = n' at *
  generalize y.pre.length = m' at *
  replace CO := Lib.hid CO
  go_enter Try.func13, Try.ntmps13
  go_wp2_with fail
  (with_reducible refine CO.out.mono ?_)
  rintro e w1 ⟨rfl, hb⟩
  replace S := S.call hb
  clear c0 c1 c2 c3 c4 c5 d0 d1 d2 d3 d4 d5
  have c2 := S.c 1 2 rfl rfl
  have d2 := S.c 0 2 rfl rfl
  cases cb
  all_goals
    go_wp2_with fail
    go_ret
    exact ⟨rfl, S.b⟩

theorem purge_own (w : World) (base : Nat) (x : La) : LaOwn w base (laV x.o x.s 3600 false none 0 0 none 0 0) (purgeX x) :=
  ⟨none, 0, none, 0, rfl, World.ownsRow_nil _ _ _ _, World.ownsRow_nil _ _ _ _, by simp [purgeX]⟩

end Go.Proofs.Ytfpoghhjpfkbaaa

namespace Go.Proofs.Ytfpoghhjpfkbaaa
set_option linter.unusedVariables false
open Go.RowKit

/-- The advertisement under way lies in block W0.heap.size; its slices behind it. -/
structure AccS (W0 w : World) (x : La) (vA vB : Value) : Prop where
  b : Below W0.heap.size W0 w
  box : Box w W0.heap.size [.int .i64 x.o, .int .i64 x.s, .int .i64 x.a, .bool x.ov, vA, vB]
  oA : w.ownsRow (W0.heap.size + 1) 71 3 vA x.adj.length (adV x.adj)
  oB : w.ownsRow (W0.heap.size + 1) 74 2 vB x.pre.length (pfV x.pre)
  u : ∀ p ∈ x.pre, p.1 < 4294967296

theorem own_lt2' {w : World} {base : Nat} {e : TypeId} {size : Nat} {v : Value} {n : Nat} {xs : List Value} (h : w.ownsRow base e size v n xs) {g : Nat} (hg : w.heap.size ≤ g) : v.ownBlock ≠ some g := fun e => by
  have := (h.lt g e).2
  omega

section
variable {W0 w w' w1 w2 : World} {x : La} {vA vB : Value} {g : Nat} {bs : List UInt8}
theorem AccS.call (h : AccS W0 w x vA vB) (hb : Below w.heap.size w w') : AccS W0 w' x vA vB :=
  ⟨h.b.trans (hb.mono h.b.size), h.box.later hb, own_below h.oA hb, own_below h.oB hb, h.u⟩
theorem AccS.drew (h : AccS W0 w x vA vB) : AccS W0 w.drew x vA vB := ⟨h.b.drew, h.box, h.oA, h.oB, h.u⟩
theorem AccS.far (h : AccS W0 w x vA vB) (hg : W0.heap.size < g) (hA : vA.ownBlock ≠ some g) (hB : vB.ownBlock ≠ some g) (u : Value) : AccS W0 (w.setCell ⟨g, 0, none⟩ u) x vA vB :=
  ⟨h.b.setCell (p := ⟨g, 0, none⟩) (Nat.le_of_lt hg) u, h.box.far u (by simp only; omega), h.oA.kept (grownBy_set w g 0 u) (.inr hA), h.oB.kept (grownBy_set w g 0 u) (.inr hB), h.u⟩
theorem AccS.start (W : World) : AccS W (W.alloc (.cells #[.int .i64 0, .int .i64 0, .int .i64 0, .bool false, .slice none 0 0, .slice none 0 0] 32)) laZero (.slice none 0 0) (.slice none 0 0) :=
  ⟨below_new' W _, Box.new W #[.int .i64 0, .int .i64 0, .int .i64 0, .bool false, .slice none 0 0, .slice none 0 0] _, World.ownsRow_nil _ _ _ _, World.ownsRow_nil _ _ _ _, by simp [laZero]⟩
/-- The four fields were stored. -/
theorem AccS.head (h : AccS W0 w x vA vB) (o s a : Int) (ov : Bool) :
    AccS W0 ((((w.setCell ⟨W0.heap.size, 0, none⟩ (.int .i64 o)).setCell ⟨W0.heap.size, 1, none⟩ (.int .i64 s)).setCell ⟨W0.heap.size, 2, none⟩ (.int .i64 a)).setCell ⟨W0.heap.size, 3, none⟩ (.bool ov)) { x with o := o, s := s, a := a, ov := ov } vA vB := by
  have k : ∀ (w : World) (v : Value) (j : Nat) (u : Value) {e : TypeId} {sz n : Nat} {xs : List Value}, w.ownsRow (W0.heap.size + 1) e sz v n xs → (w.setCell ⟨W0.heap.size, j, none⟩ u).ownsRow (W0.heap.size + 1) e sz v n xs :=
    fun w v j u _ _ _ _ h => ownsRow_setCell_below h (Nat.lt_succ_self _) u
  have hb := h.box
  refine ⟨(((h.b.setCell (p := ⟨_, _, none⟩) (Nat.le_refl _) _).setCell (p := ⟨_, _, none⟩) (Nat.le_refl _) _).setCell (p := ⟨_, _, none⟩) (Nat.le_refl _) _).setCell (p := ⟨_, _, none⟩) (Nat.le_refl _) _, ?_, k _ _ _ _ (k _ _ _ _ (k _ _ _ _ (k _ _ _ _ h.oA))), k _ _ _ _ (k _ _ _ _ (k _ _ _ _ (k _ _ _ _ h.oB))), h.u⟩
  exact (((hb.set 0 (.int .i64 o) (by simp)).set 1 (.int .i64 s) (by simp)).set 2 (.int .i64 a) (by simp)).set 3 (.bool ov) (by simp)
theorem AccS.addA (h : AccS W0 w x vA vB) (hb : Below w.heap.size w w1) {vA' : Value} (z : Ad) (ho : w2.ownsRow (W0.heap.size + 1) 71 3 vA' (x.adj.length + 1) (adV x.adj ++ [.int .i64 z.1, .int .i64 z.2.1, .int .i64 z.2.2])) (hg : w1.grownBy w2 vA.ownBlock) :
    AccS W0 (w2.setCell ⟨W0.heap.size, 4, none⟩ vA') { x with adj := x.adj ++ [z] } vA' vB := by
  have h1 := h.call hb
  have hne : vA.ownBlock ≠ some W0.heap.size := fun e => by have := (h1.oA.lt _ e).1; omega
  have k1 := h1.box.kept hg (fun e => hne e.symm) (by simp)
  refine ⟨(below_own h1.b h1.oA hg (by omega) h1.b.size).setCell (p := ⟨_, _, none⟩) (Nat.le_refl _) _, ?_, ?_, ?_, h.u⟩
  · exact k1.set 4 vA' (by simp)
  · rw [adV_append, List.length_append]
    exact ownsRow_setCell_below ho (Nat.lt_succ_self _) _
  · exact ownsRow_setCell_below (h1.oB.kept hg (own_ne h1.oB h1.oA (by decide))) (Nat.lt_succ_self _) _
theorem AccS.addB (h : AccS W0 w x vA vB) (hb : Below w.heap.size w w1) {vB' : Value} (z : Pf) (hz : z.1 < 4294967296) (ho : w2.ownsRow (W0.heap.size + 1) 74 2 vB' (x.pre.length + 1) (pfV x.pre ++ [.int .u32 (z.1 : Int), .int .i64 z.2])) (hg : w1.grownBy w2 vB.ownBlock) :
    AccS W0 (w2.setCell ⟨W0.heap.size, 5, none⟩ vB') { x with pre := x.pre ++ [z] } vA vB' := by
  have h1 := h.call hb
  have hne : vB.ownBlock ≠ some W0.heap.size := fun e => by have := (h1.oB.lt _ e).1; omega
  have k1 := h1.box.kept hg (fun e => hne e.symm) (by simp)
  refine ⟨(below_own h1.b h1.oB hg (by omega) h1.b.size).setCell (p := ⟨_, _, none⟩) (Nat.le_refl _) _, ?_, ?_, ?_, ?_⟩
  · exact k1.set 5 vB' (by simp)
  · exact ownsRow_setCell_below (h1.oA.kept hg (own_ne h1.oA h1.oB (by decide))) (Nat.lt_succ_self _) _
  · rw [pfV_append, List.length_append]
    exact ownsRow_setCell_below ho (Nat.lt_succ_self _) _
  · intro p hp
    rcases List.mem_append.1 hp with hp | hp
    · exact h.u p hp
    · obtain rfl := List.mem_singleton.1 hp
      exact hz

/-- .. while a record is being read. -/
structure AccT (W0 w : World) (x : La) (vA vB : Value) (g : Nat) (bs : List UInt8) : Prop where
  acc : AccS W0 w x vA vB
  tak : ∃ X m c, TakS w g bs X m c
  lt : W0.heap.size < g
  fA : vA.ownBlock ≠ some g
  fB : vB.ownBlock ≠ some g
theorem AccT.drew (h : AccT W0 w x vA vB g bs) : AccT W0 w.drew x vA vB g bs := by
  obtain ⟨h1, ⟨X, m, c, t⟩, h2, h3, h4⟩ := h
  exact ⟨h1.drew, ⟨X, m, c, t.cel, t.frz, t.rd, t.len, t.mc, t.cm, t.far⟩, h2, h3, h4⟩
/-- A round's two variables. -/
theorem AccT.start (h : AccS W0 w x vA vB) (r : Rc) {base : Nat} (hr : RcOwn w base 5 r) (t1 t2 : TypeId) :
    AccT W0 ((w.alloc (.cells #[.int .i64 r.t, .slice r.A r.n r.c] t1)).alloc (.cells #[.slice r.A r.n r.c] t2)) x vA vB (w.heap.size + 1) r.bs := by
  have hb1 := below_new' w (.cells #[.int .i64 r.t, .slice r.A r.n r.c] t1)
  have hb2 := hb1.trans ((below_new' (w.alloc (.cells #[.int .i64 r.t, .slice r.A r.n r.c] t1)) (.cells #[.slice r.A r.n r.c] t2)).mono hb1.size)
  have hs := h.b.size
  have hok := (hr.below hb2).ok
  have bx := Box.new (w.alloc (.cells #[.int .i64 r.t, .slice r.A r.n r.c] t1)) #[.slice r.A r.n r.c] t2
  rw [World.size_alloc] at bx
  refine ⟨h.call hb2, ⟨r.A, r.n, r.c, bx.c 0 rfl, bx.f 0 rfl, hok.rd, hok.len, hok.nc, hok.cm, ?_⟩, by omega, own_lt2' h.oA (by omega), own_lt2' h.oB (by omega)⟩
  intro ad e
  rcases hr.2 with ⟨e2, _⟩ | ⟨g', cap, cur, e2, _, hh, _⟩
  · rw [e] at e2; cases e2
  · rw [e] at e2
    simp only [Value.slice.injEq, Option.some.injEq] at e2
    obtain ⟨rfl, _⟩ := e2
    have := (Array.getElem?_eq_some_iff.1 hh).1
    simp only; omega
end

end Go.Proofs.Ytfpoghhjpfkbaaa

namespace Go.Proofs.Ytfpoghhjpfkbaaa
set_option linter.unusedVariables false
open Go.RowKit

theorem toArr_inj {a b : List UInt8} : ((⟨a.toArray⟩ : ByteArray) = ⟨b.toArray⟩) ↔ a = b := by
  constructor
  · intro h
    injection h with h
    simpa using congrArg Array.toList h
  · rintro rfl; rfl

end Go.Proofs.Ytfpoghhjpfkbaaa

namespace Go.Proofs.Ytfpoghhjpfkbaaa
set_option linter.unusedVariables false
open Go.RowKit

theorem recT : ElemT Try.prog 90 93 (.agg #[.int .i64 0, .slice none 0 0]) 2 32 := ⟨Try.underlying90, by kernel_rfl, rfl, by omega⟩

/-- The value lies in none of the boxes. -/
def Far (v : Value) (bs : List (Nat × List Value)) : Prop := ∀ x ∈ bs, v.ownBlock ≠ some x.1
abbrev rcv (r : Rc) : Value := .slice r.A r.n r.c

/-- The captured slice (block g1), the captured error (block g2), what the slice holds; boxes of the caller; slices that it reads. -/
structure EncC (W w : World) (g1 g2 : Nat) (bs : List (Nat × List Value)) (rd : List (Option Addr × List Value)) (v : Value) (rs : List Rc) : Prop where
  S : St W w ((g1, [v]) :: (g2, [.int .i64 0]) :: bs) rd
  own : w.ownsRow W.heap.size 93 2 v rs.length (recV rs)
  recs : ∀ r ∈ rs, RcOwn w W.heap.size 5 r
  far : Far v ((g1, [v]) :: (g2, [.int .i64 0]) :: bs)
  rfar : ∀ r ∈ rs, Far (rcv r) ((g1, [v]) :: (g2, [.int .i64 0]) :: bs)
  lo1 : W.heap.size ≤ g1
  lo2 : W.heap.size ≤ g2
  ne : g1 ≠ g2
  neb : ∀ x ∈ bs, x.1 ≠ g1 ∧ x.1 ≠ g2
  pos : ∀ x ∈ bs, 0 < x.2.length
/-- .. and what the records say. -/
def EncS (W w : World) (g1 g2 : Nat) (bs : List (Nat × List Value)) (rd : List (Option Addr × List Value)) (l : List Rec) : Prop :=
  ∃ v rs, EncC W w g1 g2 bs rd v rs ∧ rs.map dat = l

section
variable {W w w' : World} {g1 g2 : Nat} {bs : List (Nat × List Value)} {rd : List (Option Addr × List Value)} {v : Value} {rs : List Rc} {l : List Rec}
theorem own_lt2 {w : World} {base : Nat} {e : TypeId} {size : Nat} {v : Value} {n : Nat} {xs : List Value} (h : w.ownsRow base e size v n xs) {g : Nat} (hg : w.heap.size ≤ g) : v.ownBlock ≠ some g := fun e => by
  have := (h.lt g e).2
  omega
theorem EncC.call (h : EncC W w g1 g2 bs rd v rs) (hb : Below w.heap.size w w') : EncC W w' g1 g2 bs rd v rs :=
  { h with S := h.S.call hb, own := own_below h.own hb, recs := fun r hr => (h.recs r hr).below hb }
theorem EncS.call (h : EncS W w g1 g2 bs rd l) (hb : Below w.heap.size w w') : EncS W w' g1 g2 bs rd l := by
  obtain ⟨v, rs, h, e⟩ := h
  exact ⟨v, rs, h.call hb, e⟩
/-- At the beginning: nothing in the slice. -/
theorem EncS.start (h : St W w bs rd) (hp : ∀ x ∈ bs, 0 < x.2.length) (t1 t2 : TypeId) : EncS W ((w.alloc (.cells #[.slice none 0 0] t1)).alloc (.cells #[.int .i64 0] t2)) w.heap.size (w.heap.size + 1) bs rd [] := by
  have S2 := (h.new' #[.slice none 0 0] t1 w.heap.size _ rfl rfl).new' #[.int .i64 0] t2 (w.heap.size + 1) _ (by simp) rfl
  have lb : ∀ x ∈ bs, x.1 < w.heap.size := fun x hx => by
    obtain ⟨i, hi, he⟩ := List.getElem_of_mem hx
    exact (h.bx i x (by simp [List.getElem?_eq_getElem hi, he])).lt (hp x hx)
  have hsz := h.b.size
  refine ⟨.slice none 0 0, [], ⟨⟨S2.b, fun i x hx => ?_, S2.rd⟩, World.ownsRow_nil _ _ _ _, by simp, fun x hx => by simp [Value.ownBlock], by simp, hsz, by omega, by omega, fun x hx => by have := lb x hx; omega, hp⟩, rfl⟩
  rcases i with _ | _ | i
  · simp at hx; subst hx
    exact S2.box 1 rfl
  · simp at hx; subst hx
    exact S2.box 0 rfl
  · exact S2.bx (i + 2) x (by simpa using hx)
/-- A new box of the caller. -/
theorem EncS.new (h : EncS W w g1 g2 bs rd l) (cs : Array Value) (t : TypeId) (hc : 0 < cs.size) : EncS W (w.alloc (.cells cs t)) g1 g2 ((w.heap.size, cs.toList) :: bs) rd l := by
  obtain ⟨v, rs, h, e⟩ := h
  have h1 := h.call (below_new' w (.cells cs t))
  have l1 := (h.S.box 0 rfl).lt (by simp)
  have l2 := (h.S.box 1 rfl).lt (by simp)
  refine ⟨v, rs, { h1 with S := ?_, far := ?_, rfar := ?_, neb := ?_, pos := ?_ }, e⟩
  · refine ⟨h1.S.b, fun i x hx => ?_, h1.S.rd⟩
    rcases i with _ | _ | _ | i
    · simp at hx; subst hx; exact h1.S.box 0 rfl
    · simp at hx; subst hx; exact h1.S.box 1 rfl
    · simp at hx; subst hx; exact Box.new w cs t
    · exact h1.S.bx (i + 2) x (by simpa using hx)
  · intro x hx
    simp only [List.mem_cons] at hx
    rcases hx with rfl | rfl | rfl | hx
    · exact h.far _ (by simp)
    · exact h.far _ (by simp)
    · exact own_lt2 h.own (Nat.le_refl _)
    · exact h.far x (by simp [hx])
  · intro r hr x hx
    simp only [List.mem_cons] at hx
    rcases hx with rfl | rfl | rfl | hx
    · exact h.rfar r hr _ (by simp)
    · exact h.rfar r hr _ (by simp)
    · exact own_lt2 (h.recs r hr) (Nat.le_refl _)
    · exact h.rfar r hr x (by simp [hx])
  · intro x hx
    rcases List.mem_cons.1 hx with rfl | hx
    · constructor
      · simp only; omega
      · simp only; omega
    · exact h.neb x hx
  · intro x hx
    rcases List.mem_cons.1 hx with rfl | hx
    · simpa using hc
    · exact h.pos x hx
theorem EncS.drop (h : EncS W w g1 g2 bs rd l) (bs' : List (Nat × List Value)) (hs : ∀ x ∈ bs', x ∈ bs) : EncS W w g1 g2 bs' rd l := by
  obtain ⟨v, rs, h, e⟩ := h
  have hm : ∀ x ∈ (g1, [v]) :: (g2, [.int .i64 0]) :: bs', x ∈ (g1, [v]) :: (g2, [.int .i64 0]) :: bs := by
    intro x hx
    simp only [List.mem_cons] at hx ⊢
    rcases hx with hx | hx | hx
    · exact .inl hx
    · exact .inr (.inl hx)
    · exact .inr (.inr (hs x hx))
  exact ⟨v, rs, { h with S := h.S.keepBoxes _ hm, far := fun x hx => h.far x (hm x hx), rfar := fun r hr x hx => h.rfar r hr x (hm x hx), neb := fun x hx => h.neb x (hs x hx), pos := fun x hx => h.pos x (hs x hx) }, e⟩
theorem EncS.c (h : EncS W w g1 g2 bs rd l) (i j : Nat) {g : Nat} {cs : List Value} {u : Value} (hi : bs[i]? = some (g, cs)) (hj : cs[j]? = some u) : w.cell? ⟨g, j, none⟩ = some u := by
  obtain ⟨v, rs, h, e⟩ := h
  exact h.S.c (i + 2) j (by simpa using hi) hj
theorem EncS.r (h : EncS W w g1 g2 bs rd l) (i : Nat) {A : Option Addr} {xs : List Value} (hi : rd[i]? = some (A, xs)) : Rd w A xs := by
  obtain ⟨v, rs, h, e⟩ := h
  exact h.S.r i hi
theorem EncS.b (h : EncS W w g1 g2 bs rd l) : Below W.heap.size W w := by
  obtain ⟨v, rs, h, e⟩ := h
  exact h.S.b
/-- The captured slice was appended to, and stored. -/
theorem EncC.begun (h : EncC W w g1 g2 bs rd v rs) (kind : Int) {v' : Value} (hown : w'.ownsRow W.heap.size 93 2 v' (rs.length + 1) (recV rs ++ [.int .i64 kind, .slice none 0 0]))
    (hg : w.grownBy w' v.ownBlock) (hv : v'.ownBlock = v.ownBlock ∨ v'.ownBlock = some w.heap.size) : EncC W (w'.setCell ⟨g1, 0, none⟩ v') g1 g2 bs rd v' (rs ++ [⟨kind, none, 0, 0, []⟩]) := by
  have l1 := (h.S.box 0 rfl).lt (by simp)
  have l2 := (h.S.box 1 rfl).lt (by simp)
  have lb : ∀ x ∈ bs, x.1 < w.heap.size := fun x hx => by
    obtain ⟨i, hi, he⟩ := List.getElem_of_mem hx
    exact (h.S.bx (i + 2) x (by simp [List.getElem?_eq_getElem hi, he])).lt (h.pos x hx)
  have hfar : ∀ g, g < w.heap.size → v.ownBlock ≠ some g → v'.ownBlock ≠ some g := by
    intro g hlt hn e
    rcases hv with hv | hv
    · exact hn (hv ▸ e)
    · rw [hv] at e; injection e with e; omega
  have f1 := h.far (g1, [v]) (by simp)
  have f2 := h.far (g2, [.int .i64 0]) (by simp)
  have k1 : Box w' g1 [v] := (h.S.box 0 rfl).kept hg (fun e => f1 e.symm) (by simp)
  have k2 : Box w' g2 [.int .i64 0] := (h.S.box 1 rfl).kept hg (fun e => f2 e.symm) (by simp)
  have hbel : Below W.heap.size W w' := below_own h.S.b h.own hg (Nat.le_refl _) h.S.b.size
  refine ⟨⟨hbel.setCell (p := ⟨g1, 0, none⟩) h.lo1 _, ?_, h.S.rd⟩, ?_, ?_, ?_, ?_, h.lo1, h.lo2, h.ne, h.neb, h.pos⟩
  · intro i x hx
    rcases i with _ | _ | i
    · simp at hx; subst hx
      exact k1.set 0 v' (by simp)
    · simp at hx; subst hx
      exact k2.far _ (by simpa using h.ne)
    · have hx' : bs[i]? = some x := by simpa using hx
      have hm := List.mem_of_getElem? hx'
      have := h.S.bx (i + 2) x (by simpa using hx)
      exact (this.kept hg (fun e => h.far x (by simp [hm]) e.symm) (h.pos x hm)).far _ (fun e => (h.neb x hm).1 e.symm)
  · have he : recV (rs ++ [⟨kind, none, 0, 0, []⟩]) = recV rs ++ [.int .i64 kind, .slice none 0 0] := by rw [recV_append]; rfl
    rw [he, List.length_append]
    exact hown.kept (grownBy_set w' g1 0 v') (.inr (hfar g1 l1 f1))
  · intro r hr
    rcases List.mem_append.1 hr with hr | hr
    · have h1 := RcOwn.grown (h.recs r hr) h.own (by decide) hg
      exact h1.kept (grownBy_set w' g1 0 v') (.inr (h.rfar r hr (g1, [v]) (by simp)))
    · simp at hr; subst hr
      exact World.ownsRow_nil _ _ _ _
  · intro x hx
    simp only [List.mem_cons] at hx
    rcases hx with rfl | rfl | hx
    · exact hfar g1 l1 f1
    · exact hfar g2 l2 f2
    · exact hfar x.1 (lb x hx) (h.far x (by simp [hx]))
  · intro r hr x hx
    rcases List.mem_append.1 hr with hr | hr
    · simp only [List.mem_cons] at hx
      rcases hx with rfl | rfl | hx
      · exact h.rfar r hr (g1, [v]) (by simp)
      · exact h.rfar r hr (g2, [.int .i64 0]) (by simp)
      · exact h.rfar r hr x (by simp [hx])
    · simp at hr; subst hr
      simp [Value.ownBlock]
/-- The last record got other bytes; the error was stored. -/
theorem EncC.puts {g n cap : Nat} {rs0 : List Rc} {r r' : Rc} (h : EncC W w g1 g2 bs rd (.slice (some ⟨g, 0, none⟩) n cap) (rs0 ++ [r])) (ht : r'.t = r.t) (hr' : RcOwn w W.heap.size 5 r')
    (hf' : Far (rcv r') ((g1, [.slice (some ⟨g, 0, none⟩) n cap]) :: (g2, [.int .i64 0]) :: bs)) :
    EncC W ((w.setCell ⟨g2, 0, none⟩ (.int .i64 0)).setCell ⟨g, rs0.length * 2 + 1, none⟩ (rcv r')) g1 g2 bs rd (.slice (some ⟨g, 0, none⟩) n cap) (rs0 ++ [r']) := by
  have fg1 : g ≠ g1 := fun e => h.far (g1, [.slice (some ⟨g, 0, none⟩) n cap]) (by simp) (by simp [Value.ownBlock, e])
  have fg2 : g ≠ g2 := fun e => h.far (g2, [.int .i64 0]) (by simp) (by simp [Value.ownBlock, e])
  have fgb : ∀ x ∈ bs, g ≠ x.1 := fun x hx e => h.far x (by simp [hx]) (by simp [Value.ownBlock, e])
  have hgl := h.own.lt g rfl
  obtain rfl : n = (rs0 ++ [r]).length := by
    rcases h.own.2 with ⟨e, _⟩ | ⟨g', cap', cur, e, _⟩
    · cases e
    · simp only [Value.slice.injEq] at e; exact e.2.1
  have hS : St W (w.setCell ⟨g2, 0, none⟩ (.int .i64 0)) ((g1, [.slice (some ⟨g, 0, none⟩) (rs0 ++ [r]).length cap]) :: (g2, [.int .i64 0]) :: bs) rd :=
    h.S.set 1 0 (.int .i64 0) rfl (by simp) h.lo2 (by
      intro x hx
      simp only [List.eraseIdx_cons_succ, List.eraseIdx_cons_zero, List.mem_cons] at hx
      rcases hx with rfl | hx
      · exact h.ne
      · exact (h.neb x hx).2) _ rfl
  have o1 := h.own.kept (grownBy_set w g2 0 (.int .i64 0)) (.inr (by simpa [Value.ownBlock] using fg2))
  have o2 := (o1.stored (rs0.length * 2 + 1) (rcv r')).1
  have R1 : ∀ q, RcOwn w W.heap.size 5 q → (rcv q).ownBlock ≠ some g2 → RcOwn ((w.setCell ⟨g2, 0, none⟩ (.int .i64 0)).setCell ⟨g, rs0.length * 2 + 1, none⟩ (rcv r')) W.heap.size 5 q := by
    intro q hq hne
    have q1 : RcOwn (w.setCell ⟨g2, 0, none⟩ (.int .i64 0)) W.heap.size 5 q := hq.kept (grownBy_set w g2 0 (.int .i64 0)) (.inr hne)
    exact q1.grown o1 (by decide) (o1.stored (rs0.length * 2 + 1) (rcv r')).2
  refine ⟨⟨hS.b.setCell (p := ⟨g, _, none⟩) hgl.1 _, ?_, h.S.rd⟩, ?_, ?_, h.far, ?_, h.lo1, h.lo2, h.ne, h.neb, h.pos⟩
  · intro i x hx
    have hne : g ≠ x.1 := by
      rcases i with _ | _ | i
      · simp at hx; subst hx; exact fg1
      · simp at hx; subst hx; exact fg2
      · exact fgb x (List.mem_of_getElem? (by simpa using hx))
    exact (hS.bx i x hx).far _ hne
  · have e : (recV (rs0 ++ [r])).set (rs0.length * 2 + 1) (rcv r') = recV (rs0 ++ [r']) := by
      rw [recV_append, recV_append, List.set_append_right _ _ (by rw [recV_len]; omega), recV_len, show rs0.length * 2 + 1 - rs0.length * 2 = 1 by omega]
      simp [recV, ht]
    rw [e, List.length_append] at o2
    rw [List.length_append, List.length_append]
    exact o2
  · intro q hq
    rcases List.mem_append.1 hq with hq | hq
    · exact R1 q (h.recs q (by simp [hq])) (h.rfar q (by simp [hq]) (g2, [.int .i64 0]) (by simp))
    · simp at hq; subst hq
      exact R1 _ hr' (hf' (g2, [.int .i64 0]) (by simp))
  · intro q hq
    rcases List.mem_append.1 hq with hq | hq
    · exact h.rfar q (by simp [hq])
    · simp at hq; subst hq
      exact hf'
end

end Go.Proofs.Ytfpoghhjpfkbaaa

namespace Go.Proofs.Ytfpoghhjpfkbaaa
set_option linter.unusedVariables false
open Go.RowKit

set_option maxRecDepth 100000 in
set_option maxHeartbeats 1600000 in
theorem begin_any (kind : Int) (W w : World) (g1 g2 : Nat) (bs : List (Nat × List Value)) (rd : List (Option Addr × List Value)) (l : List Rec) (h : EncS W w g1 g2 bs rd l) (hl : l.length ≤ 1000000) :
    Calls Try.prog 53 #[.int .i64 kind, .pointer (some ⟨g1, 0, none⟩)] w fun e w' => e = .returned (.tuple #[]) ∧ EncS W w' g1 g2 bs rd (l ++ [(kind, [])]) := by
  obtain ⟨v, rs, h, rfl⟩ := h
  rw [List.length_map] at hl
  have c1 := h.S.c 0 0 rfl rfl
  have f1 := h.S.f 0 0 rfl rfl
  have hb0 := below_new' w (.cells #[.int .i64 kind, .slice none 0 0] 93)
  have h1 := h.call hb0
  have rd0 := Rd.lit w #[.int .i64 kind, .slice none 0 0] 93
  go_enter Try.func53, Try.ntmps53
  go_wp2_with (at_builtin; refine wpList_appB rfl recT (.tmp 3) (.tmp 6) rfl W.heap.size rfl h1.own (m := 1) rfl (by simp) rd0 (by simp [Value.oneCell']) (by simp only [maxLen]; omega) (by omega) h1.S.b.size (rs.length + 1) _ (by omega) rfl ?_; intro v3 w3 hown3 hbel3 hg3 hv3; obtain ⟨g3, k3, rfl, _, _, _⟩ := own_form hown3 (by omega); have h4 := h1.begun kind hown3 hg3 hv3; have cc := hg3.cell (h1.S.c 0 0 rfl rfl) (fun e => h1.far (g1, [v]) (by simp) e.symm); have ff := ((h1.S.box 0 rfl).kept hg3 (fun e => h1.far (g1, [v]) (by simp) e.symm) (by simp)).f 0 rfl)
  go_end0
  exact ⟨rfl, _, _, h4, by simp [dat]⟩

set_option maxRecDepth 100000 in
set_option maxHeartbeats 1600000 in
theorem put_any (n k : Nat) (W w : World) (g1 g2 : Nat) (bs : List (Nat × List Value)) (rd : List (Option Addr × List Value)) (l : List Rec) (t : Int) (x : List UInt8) (h : EncS W w g1 g2 bs rd (l ++ [(t, x)])) (hl : l.length ≤ 1000000) (hx : x.length ≤ 1000) (hk1 : 1 ≤ k) (hk : k ≤ 8) (hn : n < 256 ^ k) (hn2 : n < 9223372036854775808) :
    Calls Try.prog 51 #[.int .i64 n, .int .i64 k, .pointer (some ⟨g1, 0, none⟩), .pointer (some ⟨g2, 0, none⟩)] w fun e w' => e = .returned (.tuple #[]) ∧ EncS W w' g1 g2 bs rd (l ++ [(t, x ++ numB n k)]) := by
  obtain ⟨v, rs, h, he⟩ := h
  obtain ⟨rs0, r, rfl⟩ : ∃ rs0 r, rs = rs0 ++ [r] := by
    rcases List.eq_nil_or_concat rs with rfl | ⟨a, b, e⟩
    · simp at he
    · exact ⟨a, b, by simpa using e⟩
  rw [List.map_append, List.map_cons, List.map_nil] at he
  obtain ⟨rfl, hr⟩ := List.append_inj' he rfl
  simp only [List.cons.injEq, and_true] at hr
  obtain ⟨g, cap, rfl, hg1, hg2, hown⟩ := own_form h.own (by simp)
  have hlen : (rs0 ++ [r]).length = rs0.length + 1 := by simp
  rw [hlen] at hown h
  have hrr := (h.recs r (by simp)).ok
  obtain ⟨t', A, m, c, y⟩ := r
  simp only [dat, Prod.mk.injEq] at hr
  obtain ⟨rfl, rfl⟩ := hr
  obtain ⟨rd1, hm, hnc, hcm⟩ := hrr
  simp only at rd1 hm hnc hcm
  have AU := append_any A m c y n k w rd1 hm (by omega) (by omega)
  have e1 : auE n k = 0 := by unfold auE; rw [if_neg (by omega), Int.toNat_natCast, if_pos hn]
  have e2 : auR y n k = y ++ numB n k := by unfold auR; rw [e1, if_pos rfl, Int.toNat_natCast]
  rw [e1, e2] at AU
  clear e1 e2
  replace AU := Lib.hid AU
  replace hm := Lib.hid hm
  replace hlen := Lib.hid hlen
  rw [List.length_map] at hl
  have c1 := h.S.c 0 0 rfl rfl
  have c2 : w.cell? ⟨g, rs0.length * 2 + 1, none⟩ = some (.slice A m c) := by
    rw [hown.cellAt _ (by omega), recV_append, List.getElem?_append_right (by rw [recV_len]; omega), recV_len, show rs0.length * 2 + 1 - rs0.length * 2 = 1 by omega]
    rfl
  go_enter Try.func51, Try.ntmps51
  go_wp2_with fail
  (with_reducible refine AU.out.mono ?_)
  rintro e w1 ⟨v1, rfl, hown1, hb1⟩
  have h2 := h.call hb1
  have hsz := h.S.b.size
  have d2 := h2.S.c 1 0 rfl rfl
  have f2 := h2.S.f 1 0 rfl rfl
  have c3 := cell_later hb1 c2
  have f3 := (own_below hown hb1).frozenAt (rs0.length * 2 + 1)
  generalize (y ++ numB n k).length = q at hown1 ⊢
  obtain ⟨A1, k1, rfl, _, _, _⟩ := own_rd hown1
  have hfin := h2.puts (r' := ⟨t', A1, q, k1, y ++ numB n k⟩) rfl (own_mono hown1 hsz) (by
    have l1 := (h.S.box 0 rfl).lt (by simp)
    have l2 := (h.S.box 1 rfl).lt (by simp)
    intro x hx e
    have hlt := (hown1.lt x.1 e).1
    simp only [List.mem_cons] at hx
    rcases hx with rfl | rfl | hx
    · simp only at hlt; omega
    · simp only at hlt; omega
    · obtain ⟨i, hi, he⟩ := List.getElem_of_mem hx
      have := (h.S.bx (i + 2) x (by simp [List.getElem?_eq_getElem hi, he])).lt (h.pos x hx)
      omega)
  clear c1 c2 AU hown
  go_wp2_with fail
  go_end0
  exact ⟨rfl, _, _, hfin, by rw [List.map_append]; rfl⟩

theorem put_z (z zk : Int) (n k : Nat) (hz : z = n) (hzk : zk = k) (W w : World) (g1 g2 : Nat) (bs : List (Nat × List Value)) (rd : List (Option Addr × List Value)) (l : List Rec) (t : Int) (x : List UInt8) (h : EncS W w g1 g2 bs rd (l ++ [(t, x)])) (hl : l.length ≤ 1000000) (hx : x.length ≤ 1000) (hk1 : 1 ≤ k) (hk : k ≤ 8) (hn : n < 256 ^ k) (hn2 : n < 9223372036854775808) :
    Calls Try.prog 51 #[.int .i64 z, .int .i64 zk, .pointer (some ⟨g1, 0, none⟩), .pointer (some ⟨g2, 0, none⟩)] w fun e w' => e = .returned (.tuple #[]) ∧ EncS W w' g1 g2 bs rd (l ++ [(t, x ++ numB n k)]) := by
  subst hz hzk
  exact put_any n k W w g1 g2 bs rd l t x h hl hx hk1 hk hn hn2

end Go.Proofs.Ytfpoghhjpfkbaaa

namespace Go.Proofs.Ytfpoghhjpfkbaaa
set_option linter.unusedVariables false
open Go.RowKit

set_option maxHeartbeats 4000000 in
theorem cencode_any (A : Option Addr) (n cap : Nat) (l : List Rc) (w : World) (hr : Rd w A (recV l)) (hok : ∀ r ∈ l, RcOk w r) (hn : l.length = n) (hn2 : n ≤ 1000000) :
    Calls Try.prog 54 #[.slice A n cap] w fun e w' =>
      ∃ v, e = .returned (.tuple #[v, .int .i64 (encE (l.map dat))]) ∧ w'.ownsRow w.heap.size 5 1 v (encR (l.map dat)).length ((encR (l.map dat)).map u8v) ∧ Below w.heap.size w w' := by
  subst hn
  obtain ⟨E, hE⟩ : ∃ E, encE (l.map dat) = E := ⟨_, rfl⟩
  obtain ⟨R, hR⟩ : ∃ R, encR (l.map dat) = R := ⟨_, rfl⟩
  rw [hE, hR]
  have hF : Hid (encE ((l.drop 0).map dat) = E) := hE
  have hR0 : Hid (E = 0 → R = encAll (l.map dat)) := fun h => by rw [← hR]; unfold encR; rw [hE, if_pos h]
  have hR1 : Hid (E ≠ 0 → R = []) := fun h => by rw [← hR]; unfold encR; rw [hE, if_neg h]
  clear hE hR
  have S := (St.start w).read hr
  replace hok := Lib.hid hok
  clear hr
  go_enter Try.func54, Try.ntmps54
  go_wp2_with fail
  go_loopw [4, 9] (fun v4 v9 wr => ∃ (k N : Nat), k ≤ l.length ∧ v9 = .int .i64 k ∧ N ≤ 65538 * k ∧ wr.ownsRow w.heap.size 5 1 v4 N ((encAll ((l.take k).map dat)).map u8v) ∧ Hid (encE ((l.drop k).map dat) = E) ∧ St w wr [] [(A, recV l)]) (fun v4 v9 _ => l.length - (intOf v9).toNat)
  case atStart => exact ⟨0, 0, by omega, rfl, by omega, World.ownsRow_nil _ _ _ _, hF, S⟩
  case round =>
    clear S hF
    obtain ⟨k, N, hk, rfl, hN, hown, hfe, S⟩ := hrel
    by_cases hkn : k < l.length
    · obtain ⟨b, off, rfl, c0, c1⟩ := rd_recs (S.r 0 rfl) hkn
      have hstep := encE_drop l k hkn
      have hall := encAll_take l k hkn
      have hrk := hok.out l[k] (List.getElem_mem hkn)
      rw [hfe.out] at hstep
      generalize l[k] = r at c0 c1 hstep hall hrk
      obtain ⟨t, B, m, c, bs⟩ := r
      obtain ⟨rd, hl, hnc, hcm⟩ := hrk
      simp only at rd hl hnc hcm hstep c0 c1
      rw [hl] at hstep
      replace hall := Lib.hid hall
      replace hl := Lib.hid hl
      clear hfe
      by_cases h1 : t < 1
      · rw [if_pos (.inl h1)] at hstep
        obtain rfl : E = 1 := hstep
        obtain rfl := hR1.out (by omega)
        go_wp2_with fail
        go_ret2
        exact ⟨_, rfl, World.ownsRow_nil _ _ _ _, (S.alloc _).b⟩
      by_cases h2 : 255 < t
      · rw [if_pos (.inr h2)] at hstep
        obtain rfl : E = 1 := hstep
        obtain rfl := hR1.out (by omega)
        go_wp2_with fail
        go_ret2
        exact ⟨_, rfl, World.ownsRow_nil _ _ _ _, (S.alloc _).b⟩
      rw [if_neg (by omega)] at hstep
      by_cases h3 : 65535 < m
      · rw [if_pos h3] at hstep
        obtain rfl : E = 6 := hstep
        obtain rfl := hR1.out (by omega)
        go_wp2_with fail
        go_ret2
        exact ⟨_, rfl, World.ownsRow_nil _ _ _ _, (S.alloc _).b⟩
      rw [if_neg h3] at hstep
      have hE3 : Hid (encE ((l.drop (k + 1)).map dat) = E) := hstep.symm
      clear hstep
      have hal : Hid (List.map u8v (encAll ((l.take k).map dat)) ++ [.int .u8 t, .int .u8 ((m : Int) / 256), .int .u8 ((m : Int) % 256)] ++ bs.map u8v = List.map u8v (encAll ((l.take (k + 1)).map dat))) := by
        show _ = _
        rw [hall.out, List.map_append, List.append_assoc]
        congr 1
        simp only [enc1, dat, hl.out, List.map_append, List.map_cons, List.map_nil]
        have e1 : u8v (UInt8.ofNat t.toNat) = .int .u8 t := u8_ofInt (by omega) (by omega)
        have e2 : u8v (UInt8.ofNat (m / 256)) = .int .u8 ((m : Int) / 256) := by
          rw [← u8_wrap, IntKind.wrap_u8]; congr 1; omega
        have e3 : u8v (UInt8.ofNat m) = .int .u8 ((m : Int) % 256) := by
          rw [← u8_wrap, IntKind.wrap_u8]
        rw [e1, e2, e3]
      have hb0 := (below_new' wr (.cells #[.int .i64 t, .slice B m c] 93))
      have hb1 := hb0.trans ((below_new' (wr.alloc (.cells #[.int .i64 t, .slice B m c] 93)) (.cells #[.int .u8 t, .int .u8 ((m : Int) / 256), .int .u8 ((m : Int) % 256)] 5)).mono hb0.size)
      have hown1 := own_below hown hb1
      have rd0 := Rd.lit (wr.alloc (.cells #[.int .i64 t, .slice B m c] 93)) #[.int .u8 t, .int .u8 ((m : Int) / 256), .int .u8 ((m : Int) % 256)] 5
      rw [World.size_alloc, Array.toList] at rd0
      have S1 := S.call hb1
      have hsz := S1.b.size
      have hbx := (Box.new wr #[.int .i64 t, .slice B m c] 93).alloc (.cells #[.int .u8 t, .int .u8 ((m : Int) / 256), .int .u8 ((m : Int) % 256)] 5)
      have hlt := fun g (e : u4.ownBlock = some g) => (hown.lt g e).2
      clear hown hall hb0
      go_wp2_with (first
        | (at_builtin; refine wpList_appG rfl bytesT (.tmp 25) (.tmp 38) rfl w.heap.size rfl hown1 (m := 3) rfl (by simp) rd0 (by simp [Value.oneCell']) (by simp only [maxLen]; omega) (by omega) hsz (N + 3) _ (by omega) rfl ?_; intro v3 w3 hown3 hbel3 hg3; have x1 := hg3.cell (hbx.c 1 rfl) (fun e => absurd (hlt _ e.symm) (Nat.lt_irrefl _)); have hb3 := S1.b.trans hbel3; have rd2 := rd.below hb3; replace S : St w w3 [] [(some ⟨b, off, none⟩, recV l)] := ⟨hb3, by simp, S.rd⟩; clear hown1 rd0 S1 hb1 hsz hbel3)
        | (at_builtin; refine wpList_app rfl bytesT (.tmp 40) (.tmp 42) rfl w.heap.size rfl hown3 (m := m) rfl (by simp [hl.out]) rd2 (u8v_one _) (by simp only [maxLen]; omega) (by omega) hb3.size (N + 3 + m) _ (by omega) hal.out ?_; intro v4 w4 hown4 hbel4))
      replace S : St w w4 [] [(some ⟨b, off, none⟩, recV l)] := ⟨hb3.trans hbel4, by simp, S.rd⟩
      go_roundw
      case rel => exact ⟨k + 1, N + 3 + m, by omega, by go_num, by omega, hown4, hE3, S⟩
      case measure => simp [intOf]; omega
    · obtain rfl : k = l.length := by omega
      obtain rfl : E = 0 := by rw [← hfe.out, List.drop_length]; rfl
      obtain rfl := hR0.out rfl
      rw [List.take_length] at hown
      go_wp2_with fail
      go_ret2
      refine ⟨_, rfl, ?_, S.b⟩
      have := hown.1
      rw [List.length_map, Nat.mul_one] at this
      rw [this]
      exact hown

end Go.Proofs.Ytfpoghhjpfkbaaa
