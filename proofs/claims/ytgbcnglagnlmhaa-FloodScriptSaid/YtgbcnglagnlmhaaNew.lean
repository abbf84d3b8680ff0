/-
  The contract of lsa.Newer.
-/
import Derived.Test.YtgbcnglagnlmhaaSame
import Derived.Test.YtgbcnglagnlmhaaDec
import Derived.Test.YtgbcnglagnlmhaaBcmp
namespace Go.Proofs.Ytgbcnglagnlmhaa
set_option linter.unusedVariables false
open Go.RowKit

theorem own_slice' {w : World} {base : Nat} {e : TypeId} {size : Nat} {A : Option Addr} {n c : Nat} {xs : List Value} (h : w.ownsRow base e size (.slice A n c) n xs) : Rd w A xs := by
  obtain ⟨A', c', e, r, _⟩ := own_rd h
  simp only [Value.slice.injEq, true_and] at e
  obtain ⟨rfl, rfl⟩ := e
  exact r
def age0 (x : La) : La := { x with a := 0 }
noncomputable def newI (x y : La) : Int :=
  if vB x = true ∧ vB y = true then
    if x.s = y.s then if (x.a == 3600) = (y.a == 3600) then Lib.compareBytes (laEnc (age0 x)) (laEnc (age0 y)) else if (x.a == 3600) = true then 1 else -1
    else cmpI x.s y.s
  else 0
theorem age0_valid {x : La} (h : LaValid x) : LaValid (age0 x) := by
  obtain ⟨h1, h2, h3, h4, h5, h6, h7, h8⟩ := h
  exact ⟨h1, h2, ⟨by simp [age0], by simp [age0]⟩, h4, h5, fun e => by simp [age0] at e, h7, h8⟩

set_option maxRecDepth 100000 in
set_option maxHeartbeats 6400000 in
theorem lnewer_any (w : World) (v u : Value) (x y : La) (hx : LaAt w v x) (hy : LaAt w u y) : Calls Try.prog 39 #[v, u] w fun e w' => e = .returned (.int .i64 (newI x y)) ∧ Below w.heap.size w w' := by
  obtain ⟨A, c, B, d, rfl, rA, rB, h1, h2, h3, h4, hu⟩ := hx
  obtain ⟨A', c', B', d', rfl, rA', rB', h1', h2', h3', h4', hu'⟩ := hy
  unfold maxLen at h2 h4 h2' h4'
  have S := ((((((St.start w).read rB').read rA').read rB).read rA).new' #[.int .i64 x.o, .int .i64 x.s, .int .i64 x.a, .bool x.ov, .slice A x.adj.length c, .slice B x.pre.length d] 32 w.heap.size _ rfl rfl).new' #[.int .i64 y.o, .int .i64 y.s, .int .i64 y.a, .bool y.ov, .slice A' y.adj.length c', .slice B' y.pre.length d'] 32 (w.heap.size + 1) _ (by simp) rfl
  have VX := fun W (hb : Below w.heap.size w W) => valid_any x.o x.s x.a x.ov x.adj x.pre A _ c B _ d W rfl rfl (rA.below hb) (rB.below hb) hu
  have VY := fun W (hb : Below w.heap.size w W) => valid_any y.o y.s y.a y.ov y.adj y.pre A' _ c' B' _ d' W rfl rfl (rA'.below hb) (rB'.below hb) hu'
  rw [show (⟨x.o, x.s, x.a, x.ov, x.adj, x.pre⟩ : La) = x from rfl] at VX
  rw [show (⟨y.o, y.s, y.a, y.ov, y.adj, y.pre⟩ : La) = y from rfl] at VY
  have EX := fun W (hb : Below w.heap.size w W) => lencode_any x.o x.s 0 x.ov x.adj x.pre A _ c B _ d W rfl rfl (rA.below hb) (rB.below hb) hu
  have EY := fun W (hb : Below w.heap.size w W) => lencode_any y.o y.s 0 y.ov y.adj y.pre A' _ c' B' _ d' W rfl rfl (rA'.below hb) (rB'.below hb) hu'
  rw [show (⟨x.o, x.s, 0, x.ov, x.adj, x.pre⟩ : La) = age0 x from rfl] at EX
  rw [show (⟨y.o, y.s, 0, y.ov, y.adj, y.pre⟩ : La) = age0 y from rfl] at EY
  have c0 := S.c 1 0 rfl rfl
  have c1 := S.c 1 1 rfl rfl
  have c2 := S.c 1 2 rfl rfl
  have c3 := S.c 1 3 rfl rfl
  have c4 := S.c 1 4 rfl rfl
  have c5 := S.c 1 5 rfl rfl
  clear rA rB rA' rB'
  have hlx : vB x = true → lencB (age0 x) = laEnc (age0 x) := fun h => by unfold lencB; rw [vB_t (age0_valid (vB_iff.1 h))]; rfl
  have hly : vB y = true → lencB (age0 y) = laEnc (age0 y) := fun h => by unfold lencB; rw [vB_t (age0_valid (vB_iff.1 h))]; rfl
  unfold newI
  generalize laEnc (age0 x) = ex at *
  generalize laEnc (age0 y) = ey at *
  generalize lencE (age0 x) = ex0 at *
  generalize lencE (age0 y) = ey0 at *
  generalize lencB (age0 x) = lx at *
  generalize lencB (age0 y) = ly at *
  generalize hbx : vB x = bx at *
  generalize hby : vB y = by' at *
  clear hbx hby
  generalize x.adj.length = n at *
  generalize x.pre.length = m at *
  generalize y.adj.length = n' at *
  generalize y.pre.length = m' at *
  obtain ⟨o, s, a, ov, adj, pre⟩ := x
  obtain ⟨o', s', a', ov', adj', pre'⟩ := y
  simp only at *
  have VX1 := VX _ S.b
  replace VX1 := Lib.hid VX1
  replace VX := Lib.hid VX
  replace VY := Lib.hid VY
  replace EX := Lib.hid EX
  replace EY := Lib.hid EY
  replace hlx := Lib.hid hlx
  replace hly := Lib.hid hly
  clear hu hu'
  cases bx with
  | false =>
    rw [if_neg (by simp)]
    go_enter Try.func39, Try.ntmps39
    go_wp2_with fail
    (with_reducible refine VX1.out.mono ?_)
    rintro e w2 ⟨rfl, hb⟩
    replace S := S.call hb
    clear c0 c1 c2 c3 c4 c5 VX1
    go_wp2_with fail
    go_ret
    exact ⟨rfl, S.b⟩
  | true =>
  obtain ⟨r, hr⟩ : ∃ r : Int, (if true = true ∧ by' = true then (if s = s' then (if (a == 3600) = (a' == 3600) then Lib.compareBytes ex ey else if (a == 3600) = true then (1 : Int) else -1) else cmpI s s') else 0) = r := ⟨_, rfl⟩
  rw [hr]
  replace hr := Lib.hid hr
  go_enter Try.func39, Try.ntmps39
  go_wp2_with fail
  (with_reducible refine VX1.out.mono ?_)
  rintro e w2 ⟨rfl, hb⟩
  replace S := S.call hb
  clear c0 c1 c2 c3 c4 c5 VX1 hb
  have d0 := S.c 0 0 rfl rfl
  have d1 := S.c 0 1 rfl rfl
  have d2 := S.c 0 2 rfl rfl
  have d3 := S.c 0 3 rfl rfl
  have d4 := S.c 0 4 rfl rfl
  have d5 := S.c 0 5 rfl rfl
  have VY1 := VY.out _ S.b
  replace VY1 := Lib.hid VY1
  go_wp2_with fail
  (with_reducible refine VY1.out.mono ?_)
  rintro e w3 ⟨rfl, hb⟩
  replace S := S.call hb
  clear d0 d1 d2 d3 d4 d5 VY1 hb VX VY
  cases by' with
  | false =>
    obtain rfl : 0 = r := by have := hr.out; rwa [if_neg (by simp)] at this
    go_wp2_with fail
    go_ret
    exact ⟨rfl, S.b⟩
  | true =>
  have hr2 := hr.out
  rw [if_pos (by simp)] at hr2
  clear hr
  have c1 := S.c 1 1 rfl rfl
  have d1 := S.c 0 1 rfl rfl
  by_cases hs : s = s'
  rotate_left
  · rw [if_neg hs] at hr2
    replace hr2 := Lib.hid hr2
    have e2 : (s != s') = true := by simpa using hs
    clear hs
    go_wp2_with fail
    (with_reducible refine (cmpint_any _ _ _).mono ?_)
    rintro e w4 ⟨rfl, rfl⟩
    go_wp2_with fail
    go_ret
    exact ⟨ret_int hr2.out, S.b⟩
  subst hs
  rw [if_pos rfl] at hr2
  obtain ⟨pa, hpa⟩ : ∃ z, (a == 3600) = z := ⟨_, rfl⟩
  obtain ⟨pb, hpb⟩ : ∃ z, (a' == 3600) = z := ⟨_, rfl⟩
  rw [hpa, hpb] at hr2
  have c2 := S.c 1 2 rfl rfl
  have d2 := S.c 0 2 rfl rfl
  by_cases hp : pa = pb
  rotate_left
  · rw [if_neg hp] at hr2
    cases pa
    all_goals
      cases pb
      all_goals
        first
        | exact absurd rfl hp
        | skip
    · obtain rfl : -1 = r := by simpa using hr2
      clear hp hr2
      go_wp2_with fail
      go_quiet (fail)
      go_wp2_with fail
      go_ret
      exact ⟨rfl, below_drewN S.b nq⟩
    · obtain rfl : 1 = r := by simpa using hr2
      clear hp hr2
      go_wp2_with fail
      go_quiet (fail)
      go_wp2_with fail
      go_ret
      exact ⟨rfl, below_drewN S.b nq⟩
  subst hp
  rw [if_pos rfl] at hr2
  replace hr2 := Lib.hid hr2
  go_wp2_with fail
  go_quiet (fail)
  replace S := S.drewN nq
  generalize w3.drewN nq = w4 at *
  clear c1 d1 c2 d2 hpa hpb
  obtain rfl := hlx.out trivial
  obtain rfl := hly.out trivial
  clear hlx hly
  have c0 := S.c 1 0 rfl rfl
  have c1 := S.c 1 1 rfl rfl
  have c2 := S.c 1 2 rfl rfl
  have c3 := S.c 1 3 rfl rfl
  have c4 := S.c 1 4 rfl rfl
  have c5 := S.c 1 5 rfl rfl
  have d2 := S.c 0 2 rfl rfl
  have f2 := S.f 1 2 rfl rfl
  have g2 := S.f 0 2 rfl rfl
  have S2 := (S.set 1 2 (.int .i64 0) (g := w.heap.size) rfl (by simp) (Nat.le_refl _) (by simp) _ rfl).set 0 2 (.int .i64 0) (g := w.heap.size + 1) rfl (by simp) (by omega) (by simp) _ rfl
  have EX1 := EX.out _ S2.b
  replace EX1 := Lib.hid EX1
  go_wp2_with fail
  (with_reducible refine EX1.out.mono ?_)
  rintro e w5 ⟨v5, rfl, hown5, hb⟩
  replace S2 := S2.call hb
  clear c0 c1 c2 c3 c4 c5 d2 f2 g2 EX1 hb S
  obtain ⟨A5, a5, rfl, _, _, _⟩ := own_rd hown5
  have d0 := S2.c 0 0 rfl rfl
  have d1 := S2.c 0 1 rfl rfl
  have d2 := S2.c 0 2 rfl rfl
  have d3 := S2.c 0 3 rfl rfl
  have d4 := S2.c 0 4 rfl rfl
  have d5 := S2.c 0 5 rfl rfl
  have EY1 := EY.out _ S2.b
  replace EY1 := Lib.hid EY1
  go_wp2_with fail
  (with_reducible refine EY1.out.mono ?_)
  rintro e w6 ⟨v6, rfl, hown6, hb⟩
  replace S2 := S2.call hb
  have hown5 := own_below hown5 hb
  clear d0 d1 d2 d3 d4 d5 EY1 hb EX EY
  obtain ⟨A6, a6, rfl, _, _, _⟩ := own_rd hown6
  have BC := bcompare_any w6 A5 A6 _ a5 _ a6 lx ly (own_slice' hown5) rfl (own_slice' hown6) rfl
  replace BC := Lib.hid BC
  go_wp2_with fail
  (with_reducible refine BC.out.mono ?_)
  rintro e w7 ⟨rfl, rfl⟩
  go_wp2_with fail
  go_ret
  exact ⟨ret_int hr2.out, S2.b⟩

end Go.Proofs.Ytgbcnglagnlmhaa
