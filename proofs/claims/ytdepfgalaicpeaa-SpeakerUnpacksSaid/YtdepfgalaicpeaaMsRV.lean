/-
  messages: the reference's Valid.
-/
import Derived.Test.YtdepfgalaicpeaaMsP
import Derived.Test.YtdepfgalaicpeaaSameR
namespace Go.Proofs.Ytdepfgalaicpeaa
set_option linter.unusedVariables false
open Go.RowKit Go.Sort

theorem wiB_lo {n l m : Int} (h : n < l) : wiB n l m = false := by unfold wiB; rw [decide_eq_false (by omega)]; rfl
theorem wiB_hi {n l m : Int} (h : m < n) : wiB n l m = false := by unfold wiB; rw [decide_eq_false (p := n ≤ m) (by omega)]; simp
theorem wiB_in {n l m : Int} (h : l ≤ n) (h2 : n ≤ m) : wiB n l m = true := by unfold wiB; rw [decide_eq_true h, decide_eq_true h2]; rfl

set_option maxRecDepth 100000 in
set_option maxHeartbeats 3200000 in
theorem rmvalid_any (w : World) (v : Value) (m : Ms) (h : MsAt w v m) : Calls Try.prog 9 #[v] w fun e w' => e = .returned (.bool (msB m)) ∧ Below w.heap.size w w' := by
  obtain ⟨A, c, B, d, rfl, hl⟩ := h
  obtain ⟨mk, mn, mb, mh, y⟩ := m
  unfold msB
  unfold msV
  simp only at hl ⊢
  have S := (St.start w).new' #[.int .i64 mk, .int .i64 mn, .int .i64 mb, .int .i64 mh, .int .i64 y.o, .int .i64 y.s, .int .i64 y.a, .bool y.ov, .slice A y.adj.length c, .slice B y.pre.length d] 27 w.heap.size _ rfl rfl
  have V := fun W hb => rvalid_at W _ y (hl.below hb)
  have E := fun W hb => equal_any W _ (laV 0 0 0 false none 0 0 none 0 0) y laZero (hl.below hb) (laZero_own W W.heap.size).at
  rw [emB_equ] at E
  generalize vB y = vb at *
  generalize emB y = eb at *
  replace V := Lib.hid V
  replace E := Lib.hid E
  clear hl
  have a0 := S.c 0 0 rfl rfl
  have a1 := S.c 0 1 rfl rfl
  have a2 := S.c 0 2 rfl rfl
  have a3 := S.c 0 3 rfl rfl
  have a4 := S.c 0 4 rfl rfl
  have a5 := S.c 0 5 rfl rfl
  have a6 := S.c 0 6 rfl rfl
  have a7 := S.c 0 7 rfl rfl
  have a8 := S.c 0 8 rfl rfl
  have a9 := S.c 0 9 rfl rfl
  by_cases hb1 : mb < 1
  · rw [wiB_lo hb1, Bool.false_and]
    go_enter Try.func9, Try.ntmps9
    go_wp2_with fail
    go_ret
    exact ⟨rfl, S.b⟩
  by_cases hb2 : 1073741824 < mb
  · rw [wiB_hi hb2, Bool.false_and]
    go_enter Try.func9, Try.ntmps9
    go_wp2_with fail
    go_ret
    exact ⟨rfl, S.b⟩
  rw [wiB_in (by omega) (by omega), Bool.true_and]
  by_cases hk1 : mk = 1
  · subst hk1
    rw [if_pos rfl]
    by_cases hn1 : mn < 0
    · rw [wiB_lo hn1, Bool.false_and]
      have hn2 : ¬ 0 ≤ mn := by omega
      go_enter Try.func9, Try.ntmps9
      go_wp2_with fail
      go_ret
      exact ⟨rfl, S.b⟩
    by_cases hn2 : 63 < mn
    · rw [wiB_hi hn2, Bool.false_and]
      have hn3 : 0 ≤ mn := by omega
      have hn4 : ¬ mn < 64 := by omega
      go_enter Try.func9, Try.ntmps9
      go_wp2_with fail
      go_ret
      exact ⟨rfl, S.b⟩
    rw [wiB_in (n := mn) (by omega) (by omega), Bool.true_and]
    have hn3 : 0 ≤ mn := by omega
    have hn4 : mn < 64 := by omega
    by_cases hh1 : mh < 0
    · rw [wiB_lo hh1, Bool.false_and]
      have hn5 : ¬ 0 ≤ mh := by omega
      go_enter Try.func9, Try.ntmps9
      go_wp2_with fail
      go_ret
      exact ⟨rfl, S.b⟩
    have hn5 : 0 ≤ mh := by omega
    by_cases hh2 : 1073741824 < mh
    · rw [wiB_hi hh2, Bool.false_and]
      have hn6 : ¬ mh ≤ 1073741824 := by omega
      go_enter Try.func9, Try.ntmps9
      go_wp2_with fail
      go_ret
      exact ⟨rfl, S.b⟩
    have hn6 : mh ≤ 1073741824 := by omega
    rw [wiB_in (n := mh) (by omega) (by omega), Bool.true_and]
    go_enter Try.func9, Try.ntmps9
    go_wp2_with fail
    (with_reducible refine (E.out _ S.b).mono ?_)
    rintro e w4 ⟨rfl, hb⟩
    replace S := S.call hb
    go_wp2_with fail
    go_ret
    exact ⟨rfl, S.b⟩
  rw [if_neg hk1]
  by_cases hk2 : mk = 2 ∨ mk = 3
  · rw [if_pos hk2]
    by_cases hn0 : mn = 0
    · subst hn0
      by_cases hh0 : mh = 0
      · subst hh0
        rw [show ((0 : Int) == 0) = true from rfl, Bool.true_and, Bool.true_and]
        rcases hk2 with hk2 | hk2
        all_goals
          subst hk2
          go_enter Try.func9, Try.ntmps9
          go_wp2_with fail
          (with_reducible refine (V.out _ S.b).mono ?_)
          rintro e w4 ⟨rfl, hb⟩
          replace S := S.call hb
          go_wp2_with fail
          go_ret
          exact ⟨rfl, S.b⟩
      · have h6 : (mh == 0) = false := by simpa using hh0
        rw [h6, Bool.false_and, Bool.and_false]
        rcases hk2 with hk2 | hk2
        all_goals
          subst hk2
          go_enter Try.func9, Try.ntmps9
          go_wp2_with fail
          go_ret
          exact ⟨rfl, S.b⟩
    · have h5 : (mn == 0) = false := by simpa using hn0
      rw [h5, Bool.false_and]
      rcases hk2 with hk2 | hk2
      all_goals
        subst hk2
        go_enter Try.func9, Try.ntmps9
        go_wp2_with fail
        go_ret
        exact ⟨rfl, S.b⟩
  · rw [if_neg hk2]
    have k1 : (mk == 1) = false := by simpa using hk1
    have k2 : (mk == 2) = false := by simp; omega
    have k3 : (mk == 3) = false := by simp; omega
    clear hk1 hk2
    go_enter Try.func9, Try.ntmps9
    go_wp2_with fail
    go_ret
    exact ⟨rfl, S.b⟩

end Go.Proofs.Ytdepfgalaicpeaa
