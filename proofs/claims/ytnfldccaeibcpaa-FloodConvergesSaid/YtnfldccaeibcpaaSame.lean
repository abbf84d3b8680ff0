/-
  The contract of lsa.Same.
-/
import Derived.Test.YtnfldccaeibcpaaSameR
import Derived.Test.YtnfldccaeibcpaaSlEq
namespace Go.Proofs.Ytnfldccaeibcpaa
set_option linter.unusedVariables false
open Go.RowKit

set_option maxRecDepth 100000 in
set_option maxHeartbeats 6400000 in
theorem lsame_any (w : World) (v u : Value) (x y : La) (hx : LaAt w v x) (hy : LaAt w u y) : Calls Try.prog 32 #[v, u] w fun e w' => e = .returned (.bool (sameB x y)) ∧ Below w.heap.size w w' := by
  obtain ⟨A, c, B, d, rfl, rA, rB, h1, h2, h3, h4, _⟩ := hx
  obtain ⟨A', c', B', d', rfl, rA', rB', h1', h2', h3', h4', _⟩ := hy
  unfold maxLen at h2 h4 h2' h4'
  have S := ((((((St.start w).read rB').read rA').read rB).read rA).new' #[.int .i64 x.o, .int .i64 x.s, .int .i64 x.a, .bool x.ov, .slice A x.adj.length c, .slice B x.pre.length d] 45 w.heap.size _ rfl rfl).new' #[.int .i64 y.o, .int .i64 y.s, .int .i64 y.a, .bool y.ov, .slice A' y.adj.length c', .slice B' y.pre.length d'] 45 (w.heap.size + 1) _ (by simp) rfl
  have SA := fun W (hb : Below w.heap.size w W) => sleq_ad W A A' _ c _ c' x.adj y.adj (rA.below hb) (rA'.below hb) rfl rfl (by omega)
  have SP := fun W (hb : Below w.heap.size w W) => sleq_pf W B B' _ d _ d' x.pre y.pre (rB.below hb) (rB'.below hb) rfl rfl (by omega)
  have c0 := S.c 1 0 rfl rfl
  have c1 := S.c 1 1 rfl rfl
  have c2 := S.c 1 2 rfl rfl
  have c3 := S.c 1 3 rfl rfl
  have c4 := S.c 1 4 rfl rfl
  have d0 := S.c 0 0 rfl rfl
  have d1 := S.c 0 1 rfl rfl
  have d2 := S.c 0 2 rfl rfl
  have d3 := S.c 0 3 rfl rfl
  have d4 := S.c 0 4 rfl rfl
  clear rA rB rA' rB'
  unfold sameB conB
  generalize decide (x.adj = y.adj) = ra at *
  generalize decide (x.pre = y.pre) = rp at *
  generalize x.adj.length = n at *
  generalize x.pre.length = m at *
  generalize y.adj.length = n' at *
  generalize y.pre.length = m' at *
  obtain ⟨o, s, a, ov, adj, pre⟩ := x
  obtain ⟨o', s', a', ov', adj', pre'⟩ := y
  simp only at *
  replace SA := Lib.hid SA
  replace SP := Lib.hid SP
  have hbb := S.b
  by_cases h1 : o = o'
  rotate_left
  · have e1 : (o == o') = false := by simpa using h1
    have e2 : (o != o') = true := by simpa using h1
    rw [e1]
    clear h1
    go_enter Try.func32, Try.ntmps32
    go_wp2_with fail
    go_ret
    exact ⟨rfl, hbb⟩
  by_cases h2 : s = s'
  rotate_left
  · have e1 : (s == s') = false := by simpa using h2
    have e2 : (s != s') = true := by simpa using h2
    rw [e1]
    subst h1
    clear h2
    rw [Bool.false_and, Bool.and_false]
    go_enter Try.func32, Try.ntmps32
    go_wp2_with fail
    go_ret
    exact ⟨rfl, hbb⟩
  subst h1 h2
  rw [beq_self_eq_true, beq_self_eq_true, Bool.true_and, Bool.true_and]
  obtain ⟨pa, hpa⟩ : ∃ z, (a == 3600) = z := ⟨_, rfl⟩
  obtain ⟨pb, hpb⟩ : ∃ z, (a' == 3600) = z := ⟨_, rfl⟩
  rw [hpa, hpb]
  by_cases h3 : ov = ov'
  rotate_left
  · have e1 : (ov == ov') = false := by simpa using h3
    rw [e1, Bool.false_and, Bool.and_false]
    clear e1
    cases ov
    all_goals
      cases ov'
      all_goals
        first
        | exact absurd rfl h3
        | (clear h3
           go_enter Try.func32, Try.ntmps32
           go_wp2_with fail
           go_ret
           exact ⟨rfl, hbb⟩)
  subst h3
  rw [beq_self_eq_true, Bool.true_and]
  by_cases h4 : pa = pb
  rotate_left
  · have e1 : (pa == pb) = false := by simpa using h4
    rw [e1, Bool.false_and]
    clear e1
    cases pa
    all_goals
      cases pb
      all_goals
        first
        | exact absurd rfl h4
        | (clear h4
           go_enter Try.func32, Try.ntmps32
           go_wp2_with fail
           go_ret
           exact ⟨rfl, hbb⟩)
  subst h4
  rw [beq_self_eq_true, Bool.true_and]
  have SA1 := SA.out _ hbb
  replace SA1 := Lib.hid SA1
  go_enter Try.func32, Try.ntmps32
  go_wp2_with fail
  (with_reducible refine SA1.out.mono ?_)
  rintro e w2 ⟨rfl, hb⟩
  replace S := S.call hb
  clear c0 c1 c2 c3 c4 d0 d1 d2 d3 d4 SA1
  have c5 := S.c 1 5 rfl rfl
  have d5 := S.c 0 5 rfl rfl
  have SP1 := SP.out _ S.b
  replace SP1 := Lib.hid SP1
  cases ra with
  | false =>
    go_wp2_with fail
    go_ret
    exact ⟨rfl, S.b⟩
  | true =>
    go_wp2_with fail
    (with_reducible refine SP1.out.mono ?_)
    rintro e w3 ⟨rfl, hb3⟩
    replace S := S.call hb3
    clear c5 d5 SP1
    go_wp2_with fail
    go_ret
    exact ⟨rfl, S.b⟩

end Go.Proofs.Ytnfldccaeibcpaa
