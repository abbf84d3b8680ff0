/-
  The contracts of slices.Equal at prefixes, slices.EqualFunc at adjacencies with lsa.Same's closure.
-/
import Derived.Test.YtnfldccaeibcpaaEqS
namespace Go.Proofs.Ytnfldccaeibcpaa
set_option linter.unusedVariables false
open Go.RowKit

set_option maxRecDepth 100000 in
set_option maxHeartbeats 3200000 in
theorem sleq_pf (w : World) (A B : Option Addr) (n c m d : Nat) (xs ys : List Pf) (hA : Rd w A (pfV xs)) (hB : Rd w B (pfV ys)) (hn : xs.length = n) (hm : ys.length = m) (b1 : n ≤ 9223372036854775807) :
    Calls Try.prog 50 #[.slice A n c, .slice B m d] w fun e w' => e = .returned (.bool (decide (xs = ys))) ∧ Below w.heap.size w w' := by
  obtain ⟨R, hR⟩ : ∃ R, decide (xs = ys) = R := ⟨_, rfl⟩
  rw [hR]
  have hF : xs ≠ ys → R = false := fun h => by rw [← hR]; exact decide_eq_false h
  have hT : xs = ys → R = true := fun h => by rw [← hR]; exact decide_eq_true h
  clear hR
  by_cases hnm : n = m
  rotate_left
  · obtain rfl := hF (fun h => hnm (by rw [← hn, ← hm, h]))
    have e2b : ((n : Int) != (m : Int)) = true := by simp; omega
    clear hnm hn hm hF hT
    go_enter Try.func50, Try.ntmps50
    go_wp2_with fail
    go_ret
    exact ⟨rfl, Below.refl _ _⟩
  subst hnm
  have S := ((St.start w).read hB).read hA
  clear hA hB
  replace hn := Lib.hid hn
  replace hm := Lib.hid hm
  replace hF := Lib.hid hF
  replace hT := Lib.hid hT
  go_enter Try.func50, Try.ntmps50
  go_wp2_with fail
  go_loopw [13] (fun v13 wr => ∃ i : Nat, v13 = .int .i64 i ∧ i ≤ n ∧ Hid (xs.take i = ys.take i) ∧ St w wr [] [(A, pfV xs), (B, pfV ys)]) (fun v13 _ => n - (intOf v13).toNat)
  case atStart => exact ⟨0, rfl, by omega, rfl, S⟩
  case round =>
    clear S
    obtain ⟨i, rfl, hi, htk, S⟩ := hrel
    by_cases him : i < n
    · have hkl : i < xs.length := by have := hn.out; omega
      have hkl' : i < ys.length := by have := hm.out; omega
      obtain ⟨b, off, rfl, hc⟩ := rd_pf (S.r 0 rfl) (by omega)
      obtain ⟨b', off', rfl, hc'⟩ := rd_pf (S.r 1 rfl) (by omega)
      obtain ⟨x0, x1⟩ := hc i hkl
      obtain ⟨y0, y1⟩ := hc' i hkl'
      have hs1 := List.take_succ_eq_append_getElem hkl
      have hs2 := List.take_succ_eq_append_getElem hkl'
      have hne : xs[i] ≠ ys[i] → R = false := fun h => hF.out (fun h2 => h (by subst h2; rfl))
      clear hc hc'
      generalize xs[i] = x at *
      generalize ys[i] = y at *
      obtain ⟨p0, p1⟩ := x
      obtain ⟨q0, q1⟩ := y
      simp only at x0 x1 y0 y1
      have NE := fun W => neq_pf W (p0, p1) (q0, q1)
      have hG := pf_guard
      by_cases e : (p0, p1) = (q0, q1)
      · have htk2 : Hid (xs.take (i + 1) = ys.take (i + 1)) := by show _ = _; rw [hs1, hs2, htk.out, e]
        rw [decide_eq_true e] at NE
        clear hs1 hs2 hne e
        go_wp2_with fail
        go_quiet (fail)
        go_wp2_with fail
        go_round
        case rel => exact ⟨i + 1, by go_num, by omega, htk2, S.drewN nq⟩
        case measure => simp [intOf]; omega
      · obtain rfl := hne e
        rw [decide_eq_false e] at NE
        clear hs1 hs2 hne e
        go_wp2_with fail
        go_quiet (fail)
        go_wp2_with fail
        go_ret
        exact ⟨rfl, below_drewN S.b nq⟩
    · obtain rfl : i = n := by omega
      have heq : xs = ys := by
        have := htk.out
        rwa [List.take_of_length_le (by have := hn.out; omega), List.take_of_length_le (by have := hm.out; omega)] at this
      obtain rfl := hT.out heq
      clear heq
      go_wp2_with fail
      go_ret
      exact ⟨rfl, S.b⟩

set_option maxHeartbeats 800000 in
theorem same1_any (w : World) (x y : Ad) : Calls Try.prog 48 #[adA x, adA y] w fun e w' => e = .returned (.bool (decide (x = y))) ∧ Below w.heap.size w w' := by
  have S := ((St.start w).new' #[.int .i64 x.1, .int .i64 x.2.1, .int .i64 x.2.2] 105 w.heap.size _ rfl rfl).new' #[.int .i64 y.1, .int .i64 y.2.1, .int .i64 y.2.2] 105 (w.heap.size + 1) _ (by simp) rfl
  have hbb := S.b
  have c0 := S.c 1 0 rfl rfl
  have c1 := S.c 1 1 rfl rfl
  have c2 := S.c 1 2 rfl rfl
  have d0 := S.c 0 0 rfl rfl
  have d1 := S.c 0 1 rfl rfl
  have d2 := S.c 0 2 rfl rfl
  have NE := fun W => eql_ad W x y
  have hG := ad_guard
  generalize decide (x = y) = r at *
  clear S
  go_enter Try.func48, Try.ntmps48
  go_wp2_with fail
  go_ret
  exact ⟨rfl, hbb⟩

set_option maxRecDepth 100000 in
set_option maxHeartbeats 3200000 in
theorem sleq_ad (w : World) (A B : Option Addr) (n c m d : Nat) (xs ys : List Ad) (hA : Rd w A (adV xs)) (hB : Rd w B (adV ys)) (hn : xs.length = n) (hm : ys.length = m) (b1 : n ≤ 9223372036854775807) :
    Calls Try.prog 49 #[.slice A n c, .slice B m d, .func (.func 48) #[] #[]] w fun e w' => e = .returned (.bool (decide (xs = ys))) ∧ Below w.heap.size w w' := by
  obtain ⟨R, hR⟩ : ∃ R, decide (xs = ys) = R := ⟨_, rfl⟩
  rw [hR]
  have hF : xs ≠ ys → R = false := fun h => by rw [← hR]; exact decide_eq_false h
  have hT : xs = ys → R = true := fun h => by rw [← hR]; exact decide_eq_true h
  clear hR
  by_cases hnm : n = m
  rotate_left
  · obtain rfl := hF (fun h => hnm (by rw [← hn, ← hm, h]))
    have e2b : ((n : Int) != (m : Int)) = true := by simp; omega
    clear hnm hn hm hF hT
    go_enter Try.func49, Try.ntmps49
    go_wp2_with fail
    go_ret
    exact ⟨rfl, Below.refl _ _⟩
  subst hnm
  have S := ((St.start w).read hB).read hA
  clear hA hB
  replace hn := Lib.hid hn
  replace hm := Lib.hid hm
  replace hF := Lib.hid hF
  replace hT := Lib.hid hT
  go_enter Try.func49, Try.ntmps49
  go_wp2_with fail
  go_loopw [17] (fun v13 wr => ∃ i : Nat, v13 = .int .i64 i ∧ i ≤ n ∧ Hid (xs.take i = ys.take i) ∧ St w wr [] [(A, adV xs), (B, adV ys)]) (fun v13 _ => n - (intOf v13).toNat)
  case atStart => exact ⟨0, rfl, by omega, rfl, S⟩
  case round =>
    clear S
    obtain ⟨i, rfl, hi, htk, S⟩ := hrel
    by_cases him : i < n
    · have hkl : i < xs.length := by have := hn.out; omega
      have hkl' : i < ys.length := by have := hm.out; omega
      obtain ⟨b, off, rfl, hc⟩ := rd_ad (S.r 0 rfl) (by omega)
      obtain ⟨b', off', rfl, hc'⟩ := rd_ad (S.r 1 rfl) (by omega)
      obtain ⟨x0, x1, x2⟩ := hc i hkl
      obtain ⟨y0, y1, y2⟩ := hc' i hkl'
      have hs1 := List.take_succ_eq_append_getElem hkl
      have hs2 := List.take_succ_eq_append_getElem hkl'
      have hne : xs[i] ≠ ys[i] → R = false := fun h => hF.out (fun h2 => h (by subst h2; rfl))
      clear hc hc'
      generalize xs[i] = x at *
      generalize ys[i] = y at *
      have b2 := below_new' wr (.cells #[.int .i64 x.1, .int .i64 x.2.1, .int .i64 x.2.2] 105)
      have y0 := cell_later b2 y0
      have y1 := cell_later b2 y1
      have y2 := cell_later b2 y2
      have S2 := (S.new' #[.int .i64 x.1, .int .i64 x.2.1, .int .i64 x.2.2] 105 wr.heap.size _ rfl rfl).new' #[.int .i64 y.1, .int .i64 y.2.1, .int .i64 y.2.2] 105 (wr.heap.size + 1) _ (by simp) rfl
      have c0 := S2.c 1 0 rfl rfl
      have c1 := S2.c 1 1 rfl rfl
      have c2 := S2.c 1 2 rfl rfl
      have d0 := S2.c 0 0 rfl rfl
      have d1 := S2.c 0 1 rfl rfl
      have d2 := S2.c 0 2 rfl rfl
      have SM := fun W => same1_any W x y
      by_cases e : x = y
      · have htk2 : Hid (xs.take (i + 1) = ys.take (i + 1)) := by show _ = _; rw [hs1, hs2, htk.out, e]
        rw [decide_eq_true e] at SM
        replace SM := Lib.hid SM
        clear hs1 hs2 hne e b2
        go_wp2_with fail
        (with_reducible refine (SM.out _).mono ?_)
        rintro e w2 ⟨rfl, hb⟩
        replace S2 := S2.call hb
        clear c0 c1 c2 d0 d1 d2
        go_wp2_with fail
        go_round
        case rel => exact ⟨i + 1, by go_num, by omega, htk2, S2.keepBoxes _ (by simp)⟩
        case measure => simp [intOf]; omega
      · obtain rfl := hne e
        rw [decide_eq_false e] at SM
        replace SM := Lib.hid SM
        clear hs1 hs2 hne e b2
        go_wp2_with fail
        (with_reducible refine (SM.out _).mono ?_)
        rintro e w2 ⟨rfl, hb⟩
        replace S2 := S2.call hb
        clear c0 c1 c2 d0 d1 d2
        go_wp2_with fail
        go_ret
        exact ⟨rfl, S2.b⟩
    · obtain rfl : i = n := by omega
      have heq : xs = ys := by
        have := htk.out
        rwa [List.take_of_length_le (by have := hn.out; omega), List.take_of_length_le (by have := hm.out; omega)] at this
      obtain rfl := hT.out heq
      clear heq
      go_wp2_with fail
      go_ret
      exact ⟨rfl, S.b⟩

end Go.Proofs.Ytnfldccaeibcpaa
