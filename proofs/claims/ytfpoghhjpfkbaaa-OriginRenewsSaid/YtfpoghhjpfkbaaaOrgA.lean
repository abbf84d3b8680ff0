/-
  chapter 36: awake; the statement OriginNil.
-/
import Derived.Test.YtfpoghhjpfkbaaaOrgT
import Derived.Test.YtfpoghhjpfkbaaaSameR
namespace Go.Proofs.Ytfpoghhjpfkbaaa
set_option linter.unusedVariables false
open Go.RowKit Go.Sort

theorem below_via {B : Nat} {w0 w w' : World} {g : Nat} (h : Below B w0 w) (hg : w.grownBy w' (some g)) (hB : B ≤ g) (hs : B ≤ w.heap.size) : Below B w0 w' := h.grown hg hs (fun k hk => by injection hk with hk; omega)
theorem equB_refl' (x : La) : equB x x = true := by simp [equB, sameB, conB]
/-- An advertisement without adjacencies and prefixes. -/
def bare (o s a : Int) (ov : Bool) : La := ⟨o, s, a, ov, [], []⟩
theorem bare_at (w : World) (o s a : Int) (ov : Bool) : LaAt w (laV o s a ov none 0 0 none 0 0) (bare o s a ov) := ⟨none, 0, none, 0, rfl, Rd.nil _ _, Rd.nil _ _, by simp [bare], by simp [maxLen], by simp [bare], by simp [maxLen], by simp [bare]⟩
theorem bare_co (w : World) (ov : Bool) (o s a : Int) : CoAt w (coV ov none 0 0 none 0 0) (bare o s a ov) := ⟨none, 0, none, 0, rfl, Rd.nil _ _, Rd.nil _ _, by simp [bare], by simp [maxLen], by simp [bare], by simp [maxLen], by simp [bare]⟩
theorem bare_valid (o s a : Int) (ov : Bool) (h0 : 0 ≤ o) (h1 : o ≤ 63) (h2 : 1 ≤ s) (h3 : s ≤ 1073741824) (h4 : 0 ≤ a) (h5 : a < 3600) : LaValid (bare o s a ov) := by
  refine ⟨⟨h0, h1⟩, ⟨h2, h3⟩, ⟨h4, by simp only [bare]; omega⟩, by simp [bare], by simp [bare], fun h => by simp only [bare] at h; omega, fun k x hk => by simp [bare] at hk, fun k x hk => by simp [bare] at hk⟩
theorem newI_s {x y : La} (hx : LaValid x) (hy : LaValid y) (h : x.s ≠ y.s) : newI x y = cmpI x.s y.s := by
  unfold newI
  rw [vB_t hx, vB_t hy, if_pos ⟨rfl, rfl⟩, if_neg h]

theorem aw_set1 : setP (bare 2 0 0 false) false (bare 2 0 0 false) = ⟨bare 2 1 0 false, true, true, 0⟩ := by
  unfold setP
  rw [show num (bare 2 0 0 false).o 1 0 (bare 2 0 0 false) = bare 2 1 0 false from rfl, vB_t (bare_valid 2 1 0 false (by omega) (by omega) (by omega) (by omega) (by omega) (by omega)), if_pos rfl, if_neg (by simp), if_neg (by simp [bare])]
  rfl
theorem aw_set2 : setP (bare 2 1 0 false) true (bare 2 0 0 false) = ⟨bare 2 1 0 false, true, false, 0⟩ := by
  unfold setP
  rw [show num (bare 2 1 0 false).o 1 0 (bare 2 0 0 false) = bare 2 1 0 false from rfl, vB_t (bare_valid 2 1 0 false (by omega) (by omega) (by omega) (by omega) (by omega) (by omega)), if_pos rfl, if_pos ⟨rfl, by simp [conB, bare]⟩]
theorem aw_hear1 : hearP (bare 2 1 0 false) true (bare 2 9 0 false) = ⟨bare 2 10 0 false, true, true, 0⟩ := by
  unfold hearP
  have h9 := bare_valid 2 9 0 false (by omega) (by omega) (by omega) (by omega) (by omega) (by omega)
  have h1 := bare_valid 2 1 0 false (by omega) (by omega) (by omega) (by omega) (by omega) (by omega)
  rw [vB_t h9, if_pos ⟨rfl, rfl⟩, if_pos rfl, newI_s h9 h1 (by simp [bare]), if_neg (by simp [bare, cmpI]), if_neg (by simp [bare])]
  rfl
theorem aw_hear2 : hearP (bare 2 10 0 false) true (bare 2 9 0 false) = ⟨bare 2 10 0 false, true, false, 0⟩ := by
  unfold hearP
  have h9 := bare_valid 2 9 0 false (by omega) (by omega) (by omega) (by omega) (by omega) (by omega)
  have h1 := bare_valid 2 10 0 false (by omega) (by omega) (by omega) (by omega) (by omega) (by omega)
  rw [vB_t h9, if_pos ⟨rfl, rfl⟩, if_pos rfl, newI_s h9 h1 (by simp [bare]), if_pos (by simp [bare, cmpI])]
theorem aw_tick : tickX (bare 2 10 0 false) true 1800 = bare 2 11 0 false ∧ tickB (bare 2 10 0 false) true 1800 = true := by
  constructor
  · simp [tickX, bare, renews, times, capA]
  · simp [tickB, bare, renews]

set_option maxRecDepth 100000 in
set_option maxHeartbeats 6400000 in
theorem awake_any (w : World) : Calls Try.prog 8 #[] w fun e w' => e = .returned (.bool true) ∧ Below w.heap.size w w' := by
  have N := onew_ok w 2 (by omega) (by omega)
  unfold OrNew at N
  go_enter Try.func8, Try.ntmps8
  go_wp2_with fail
  (with_reducible refine (N).mono ?_)
  rintro e w1 ⟨rfl, O, B⟩
  clear N
  have S1 := oset_any w1 w.heap.size _ (bare 2 0 0 false) (bare 2 0 0 false) false O (bare_co w1 false 2 0 0) (by simp [bare]) (by simp [bare]) (by simp [bare]) (by simp [bare])
  rw [aw_set1] at S1
  replace S1 := Lib.hid S1
  clear O
  go_wp2_with fail
  (with_reducible refine (S1.out).mono ?_)
  rintro e w2 ⟨rfl, O, hg⟩
  clear S1
  replace B := below_via B hg (Nat.le_refl _) B.size
  have S1 := oset_any w2 w.heap.size _ (bare 2 1 0 false) (bare 2 0 0 false) true O (bare_co w2 false 2 0 0) (by simp [bare]) (by simp [bare]) (by simp [bare]) (by simp [bare])
  rw [aw_set2] at S1
  replace S1 := Lib.hid S1
  clear O hg
  go_wp2_with fail
  (with_reducible refine (S1.out).mono ?_)
  rintro e w3 ⟨rfl, O, hg⟩
  clear S1
  replace B := below_via B hg (Nat.le_refl _) B.size
  have S1 := ohear_any w3 w.heap.size _ (bare 2 1 0 false) (bare 2 9 0 false) true O (bare_at w3 2 9 0 false) (by simp [bare]) (by simp [bare]) (by simp [bare]) (by simp [bare])
  rw [aw_hear1] at S1
  replace S1 := Lib.hid S1
  clear O hg
  go_wp2_with fail
  (with_reducible refine (S1.out).mono ?_)
  rintro e w4 ⟨rfl, O, hg⟩
  clear S1
  replace B := below_via B hg (Nat.le_refl _) B.size
  have S1 := ohear_any w4 w.heap.size _ (bare 2 10 0 false) (bare 2 9 0 false) true O (bare_at w4 2 9 0 false) (by simp [bare]) (by simp [bare]) (by simp [bare]) (by simp [bare])
  rw [aw_hear2] at S1
  replace S1 := Lib.hid S1
  clear O hg
  go_wp2_with fail
  (with_reducible refine (S1.out).mono ?_)
  rintro e w5 ⟨rfl, O, hg⟩
  clear S1
  replace B := below_via B hg (Nat.le_refl _) B.size
  have S1 := otick_any w5 w.heap.size (bare 2 10 0 false) true 1800 O (by omega) (by simp [bare]) (by simp [bare]) (by simp [bare]) (by simp [bare])
  rw [aw_tick.1, aw_tick.2] at S1
  replace S1 := Lib.hid S1
  clear O hg
  go_wp2_with fail
  (with_reducible refine (S1.out).mono ?_)
  rintro e w6 ⟨rfl, O, hg⟩
  clear S1
  replace B := below_via B hg (Nat.le_refl _) B.size
  have S1 := current_any w6 w.heap.size (bare 2 11 0 false) true O (by simp [bare]) (by simp [bare])
  rw [show CurPost w6 (bare 2 11 0 false) true = fun e w' => ∃ v, e = .returned (.tuple #[v, .bool true]) ∧ LaOwn w' w6.heap.size v (bare 2 11 0 false) ∧ Below w6.heap.size w6 w' from rfl] at S1
  replace S1 := Lib.hid S1
  clear hg
  go_wp2_with fail
  (with_reducible refine (S1.out).mono ?_)
  rintro e w7 ⟨v7, rfl, hown, hb⟩
  clear S1
  obtain ⟨A7, c7, B7, d7, hv7, hL7⟩ := hown.open
  have hv8 : v7 = laV 2 11 0 false A7 0 c7 B7 0 d7 := hv7
  clear hv7
  subst hv8
  have h7 : LaAt _ (laV 2 11 0 false A7 0 c7 B7 0 d7) (bare 2 11 0 false) := hL7.out _ (below_new' _ (.cells #[.int .i64 2, .int .i64 11, .int .i64 0, .bool false, .slice A7 0 c7, .slice B7 0 d7] 32))
  clear hL7 hown
  have S := ((St.start w6).call hb).new' #[.int .i64 2, .int .i64 11, .int .i64 0, .bool false, .slice A7 0 c7, .slice B7 0 d7] 32 w7.heap.size _ rfl rfl
  replace O := O.below S.b
  replace B := B.trans (S.b.mono B.size)
  have q0 := S.c 0 0 rfl rfl
  have q1 := S.c 0 1 rfl rfl
  have q2 := S.c 0 2 rfl rfl
  have q3 := S.c 0 3 rfl rfl
  have q4 := S.c 0 4 rfl rfl
  have q5 := S.c 0 5 rfl rfl
  have EQ := equal_any _ _ _ (bare 2 11 0 false) (bare 2 11 0 false) h7 (bare_at _ 2 11 0 false)
  rw [equB_refl'] at EQ
  replace EQ := Lib.hid EQ
  clear h7 S hb
  replace O := Lib.hid O
  go_wp2_with fail
  (with_reducible refine (EQ.out).mono ?_)
  rintro e w8 ⟨rfl, hb⟩
  have F := floor_any w8 w.heap.size (bare 2 11 0 false) true (O.out.below hb)
  replace F := Lib.hid F
  replace B := B.trans (hb.mono B.size)
  clear hb EQ O
  go_wp2_with fail
  (with_reducible refine (F.out).mono ?_)
  rintro e w9 ⟨rfl, rfl⟩
  go_wp2_with fail
  go_ret
  exact ⟨rfl, B⟩

end Go.Proofs.Ytfpoghhjpfkbaaa
