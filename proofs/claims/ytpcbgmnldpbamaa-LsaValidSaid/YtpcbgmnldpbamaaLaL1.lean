/-
  The walks of the statements LsaDecodes, LsaNewer, LsaOrder.
-/
import Derived.Test.YtpcbgmnldpbamaaLaAw
import Derived.Test.YtpcbgmnldpbamaaLaS
import Derived.Lib.QuietBelow
namespace Go.Proofs.Ytpcbgmnldpbamaa
set_option linter.unusedVariables false
open Go.RowKit Go.Sort

theorem LaAt.opened {w : World} {v : Value} {x : La} (h : LaAt w v x) : ∃ A c B d, v = laV x.o x.s x.a x.ov A x.adj.length c B x.pre.length d ∧ LaAt w (laV x.o x.s x.a x.ov A x.adj.length c B x.pre.length d) x := by
  obtain ⟨A, c, B, d, hv⟩ := h.form
  subst hv
  exact ⟨A, c, B, d, rfl, h⟩

theorem belowR {B : Nat} {w w1 : World} (h : Below B w w1) (d : Nat) (os : Array Obj) (hs : B ≤ w1.heap.size) : Below B w (grow (redrawn w1 d) os) := h.trans ((below_regrown w1 d os).mono hs)
set_option maxRecDepth 100000 in
set_option maxHeartbeats 3200000 in
theorem decodes_law (w : World) (A : Option Addr) (n cap : Nat) (bs : List UInt8) (hr : Bs w A bs) (hn : bs.length = n) (hnc : n ≤ cap) (hm : cap ≤ maxLen) :
    Calls Try.prog 4 #[.slice A n cap] w fun e w' => e = .returned (.bool true) ∧ Below w.heap.size w w' := by
  unfold maxLen at hm
  have S := (St.start w).read hr
  obtain ⟨E, hE⟩ : ∃ E, ldecE bs = E := ⟨_, rfl⟩
  obtain ⟨V, hV⟩ : ∃ V, ldecV bs = V := ⟨_, rfl⟩
  have D := fun W h hn2 => dec_at W A n cap bs E V hE hV h hn hnc hm hn2
  have R := fun W h hn2 => rdec_at W A n cap bs E V hE hV h hn hnc hm hn2
  replace D := Lib.hid D
  replace R := Lib.hid R
  clear hn hr hE hV
  go_enter Try.func4, Try.ntmps4
  go_wp2_with fail
  (with_reducible refine (awake_any _).mono ?_)
  rintro e w1 ⟨rfl, hb⟩
  replace S := S.call hb
  clear hb
  by_cases hl : 500 < n
  · have hl' : (500 : Int) < n := by omega
    go_wp2_with fail
    go_ret
    exact ⟨rfl, S.b⟩
  have hl' : ¬ (500 : Int) < n := by omega
  go_wp2_with fail
  (with_reducible refine (D.out _ (S.r 0 rfl) (by omega)).mono ?_)
  rintro e w2 ⟨A1, c1, B1, d1, rfl, hL1, hb⟩
  replace S := S.call hb
  clear hb
  have h1 := hL1.out _ (Below.refl _ _)
  clear hL1
  replace S := S.new' #[.int .i64 V.o, .int .i64 V.s, .int .i64 V.a, .bool V.ov, .slice A1 V.adj.length c1, .slice B1 V.pre.length d1] 25 (w2.heap.size) _ (by first | rfl | simp) rfl
  replace h1 := h1.below (below_new' _ (.cells #[.int .i64 V.o, .int .i64 V.s, .int .i64 V.a, .bool V.ov, .slice A1 V.adj.length c1, .slice B1 V.pre.length d1] 25))
  go_wp2_with fail
  (with_reducible refine (R.out _ (S.r 0 rfl) (by omega)).mono ?_)
  rintro e w3 ⟨A2, c2, B2, d2, rfl, hL2, hb⟩
  replace S := S.call hb
  replace h1 := h1.below hb
  clear hb
  have h2 := hL2.out _ (Below.refl _ _)
  clear hL2
  replace S := S.new' #[.int .i64 V.o, .int .i64 V.s, .int .i64 V.a, .bool V.ov, .slice A2 V.adj.length c2, .slice B2 V.pre.length d2] 25 (w3.heap.size) _ (by first | rfl | simp) rfl
  replace h1 := h1.below (below_new' _ (.cells #[.int .i64 V.o, .int .i64 V.s, .int .i64 V.a, .bool V.ov, .slice A2 V.adj.length c2, .slice B2 V.pre.length d2] 25))
  replace h2 := h2.below (below_new' _ (.cells #[.int .i64 V.o, .int .i64 V.s, .int .i64 V.a, .bool V.ov, .slice A2 V.adj.length c2, .slice B2 V.pre.length d2] 25))
  have x0 := S.c 0 0 rfl rfl
  have x1 := S.c 0 1 rfl rfl
  have x2 := S.c 0 2 rfl rfl
  have x3 := S.c 0 3 rfl rfl
  have x4 := S.c 0 4 rfl rfl
  have x5 := S.c 0 5 rfl rfl
  have y0 := S.c 1 0 rfl rfl
  have y1 := S.c 1 1 rfl rfl
  have y2 := S.c 1 2 rfl rfl
  have y3 := S.c 1 3 rfl rfl
  have y4 := S.c 1 4 rfl rfl
  have y5 := S.c 1 5 rfl rfl
  have EQ := equal_any _ _ _ V V h1 h2
  rw [equB_refl] at EQ
  have hee : (E == E) = true := by simp
  clear h1 h2
  replace EQ := Lib.hid EQ
  go_wp2_with fail
  (with_reducible refine (EQ.out).mono ?_)
  rintro e w4 ⟨rfl, hb⟩
  replace S := S.call hb
  go_wp2_with fail
  go_ret
  exact ⟨rfl, S.b⟩

set_option maxRecDepth 100000 in
set_option maxHeartbeats 6400000 in
theorem newer_law (w : World) (v : Value) (x : La) (hx : LaAt w v x) (u : Value) (y : La) (hy : LaAt w u y) :
    Calls Try.prog 8 #[v, u] w fun e w' => e = .returned (.bool true) ∧ Below w.heap.size w w' := by
  obtain ⟨A, c, B, d, rfl, h1⟩ := hx.opened
  obtain ⟨A', c', B', d', rfl, h2⟩ := hy.opened
  clear hx hy
  have S := St.start w
  replace S := S.new' #[.int .i64 x.o, .int .i64 x.s, .int .i64 x.a, .bool x.ov, .slice A x.adj.length c, .slice B x.pre.length d] 25 (w.heap.size) _ (by first | rfl | simp) rfl
  replace h1 := h1.below (below_new' _ (.cells #[.int .i64 x.o, .int .i64 x.s, .int .i64 x.a, .bool x.ov, .slice A x.adj.length c, .slice B x.pre.length d] 25))
  replace h2 := h2.below (below_new' _ (.cells #[.int .i64 x.o, .int .i64 x.s, .int .i64 x.a, .bool x.ov, .slice A x.adj.length c, .slice B x.pre.length d] 25))
  replace S := S.new' #[.int .i64 y.o, .int .i64 y.s, .int .i64 y.a, .bool y.ov, .slice A' y.adj.length c', .slice B' y.pre.length d'] 25 (w.heap.size + 1) _ (by first | rfl | simp) rfl
  replace h1 := h1.below (below_new' _ (.cells #[.int .i64 y.o, .int .i64 y.s, .int .i64 y.a, .bool y.ov, .slice A' y.adj.length c', .slice B' y.pre.length d'] 25))
  replace h2 := h2.below (below_new' _ (.cells #[.int .i64 y.o, .int .i64 y.s, .int .i64 y.a, .bool y.ov, .slice A' y.adj.length c', .slice B' y.pre.length d'] 25))
  go_enter Try.func8, Try.ntmps8
  go_wp2_with fail
  (with_reducible refine (awake_any _).mono ?_)
  rintro e w1 ⟨rfl, hb⟩
  replace S := S.call hb
  replace h1 := h1.below hb
  replace h2 := h2.below hb
  clear hb
  have c0 := S.c 1 0 rfl rfl
  have c1 := S.c 1 1 rfl rfl
  have c2 := S.c 1 2 rfl rfl
  have c3 := S.c 1 3 rfl rfl
  have c4 := S.c 1 4 rfl rfl
  have c5 := S.c 1 5 rfl rfl
  have F1 := few_any _ _ x h1
  generalize fewB x = f1 at *
  replace F1 := Lib.hid F1
  go_wp2_with fail
  (with_reducible refine (F1.out).mono ?_)
  rintro e w2 ⟨rfl, hb⟩
  replace S := S.call hb
  replace h1 := h1.below hb
  replace h2 := h2.below hb
  clear hb
  clear c0 c1 c2 c3 c4 c5
  clear F1
  cases f1 with
  | false =>
    go_wp2_with fail
    go_ret
    exact ⟨rfl, S.b⟩
  | true =>
  have d0 := S.c 0 0 rfl rfl
  have d1 := S.c 0 1 rfl rfl
  have d2 := S.c 0 2 rfl rfl
  have d3 := S.c 0 3 rfl rfl
  have d4 := S.c 0 4 rfl rfl
  have d5 := S.c 0 5 rfl rfl
  have F1 := few_any _ _ y h2
  generalize fewB y = f1 at *
  replace F1 := Lib.hid F1
  go_wp2_with fail
  (with_reducible refine (F1.out).mono ?_)
  rintro e w3 ⟨rfl, hb⟩
  replace S := S.call hb
  replace h1 := h1.below hb
  replace h2 := h2.below hb
  clear hb
  clear d0 d1 d2 d3 d4 d5
  clear F1
  cases f1 with
  | false =>
    go_wp2_with fail
    go_ret
    exact ⟨rfl, S.b⟩
  | true =>
  have N1 := fun W hb => lnewer_any W _ _ x y (h1.below hb) (h2.below hb)
  have N2 := fun W hb => rnewer_any W _ _ x y (h1.below hb) (h2.below hb)
  have N3 := fun W hb => lsame_any W _ _ x y (h1.below hb) (h2.below hb)
  have N4 := fun W hb => rsamela_any W _ _ x y (h1.below hb) (h2.below hb)
  generalize newI x y = z at *
  generalize sameB x y = sb at *
  replace N1 := Lib.hid N1
  replace N2 := Lib.hid N2
  replace N3 := Lib.hid N3
  replace N4 := Lib.hid N4
  clear h1 h2
  have he : (z == z) = true := by simp
  have hs : (sb == sb) = true := by simp
  go_wp2_with fail
  have c0 := cell_regrown (S.c 1 0 rfl rfl)
  have c1 := cell_regrown (S.c 1 1 rfl rfl)
  have c2 := cell_regrown (S.c 1 2 rfl rfl)
  have c3 := cell_regrown (S.c 1 3 rfl rfl)
  have c4 := cell_regrown (S.c 1 4 rfl rfl)
  have c5 := cell_regrown (S.c 1 5 rfl rfl)
  have d0 := cell_regrown (S.c 0 0 rfl rfl)
  have d1 := cell_regrown (S.c 0 1 rfl rfl)
  have d2 := cell_regrown (S.c 0 2 rfl rfl)
  have d3 := cell_regrown (S.c 0 3 rfl rfl)
  have d4 := cell_regrown (S.c 0 4 rfl rfl)
  have d5 := cell_regrown (S.c 0 5 rfl rfl)
  refine wp_region_quiet_below (by kernel_rfl) (by kernel_rfl) ?_
  repeat (go_big_quiet_step ((first | (go_at_call 21; with_reducible exact Calls.regrown_of (N1.out _ (below_regrown _ _ _))) | (go_at_call 22; with_reducible exact Calls.regrown_of (N2.out _ (below_regrown _ _ _))) | (go_at_call 23; with_reducible exact Calls.regrown_of (N3.out _ (below_regrown _ _ _))) | (go_at_call 24; with_reducible exact Calls.regrown_of (N4.out _ (below_regrown _ _ _))))))
  refine wpQuiet_nil ?_
  intro _ hw'
  obtain ⟨⟨dq, osq⟩, hw''⟩ := hw'
  subst hw''
  replace S := S.call (below_regrown _ dq osq)
  generalize grow (redrawn _ dq) osq = w4 at *
  go_wp2_with fail
  go_ret
  exact ⟨rfl, S.b⟩

set_option maxRecDepth 100000 in
set_option maxHeartbeats 12800000 in
theorem order_law (w : World) (v : Value) (x : La) (hx : LaAt w v x) (u : Value) (y : La) (hy : LaAt w u y) (t : Value) (z : La) (hz : LaAt w t z) :
    Calls Try.prog 9 #[v, u, t] w fun e w' => e = .returned (.bool true) ∧ Below w.heap.size w w' := by
  obtain ⟨A, c, B, d, rfl, h1⟩ := hx.opened
  obtain ⟨A', c', B', d', rfl, h2⟩ := hy.opened
  obtain ⟨A2, c2, B2, d2, rfl, h3⟩ := hz.opened
  have u1 := hx.ok
  have u2 := hy.ok
  have u3 := hz.ok
  clear hx hy hz
  have S := St.start w
  replace S := S.new' #[.int .i64 x.o, .int .i64 x.s, .int .i64 x.a, .bool x.ov, .slice A x.adj.length c, .slice B x.pre.length d] 25 (w.heap.size) _ (by first | rfl | simp) rfl
  replace h1 := h1.below (below_new' _ (.cells #[.int .i64 x.o, .int .i64 x.s, .int .i64 x.a, .bool x.ov, .slice A x.adj.length c, .slice B x.pre.length d] 25))
  replace h2 := h2.below (below_new' _ (.cells #[.int .i64 x.o, .int .i64 x.s, .int .i64 x.a, .bool x.ov, .slice A x.adj.length c, .slice B x.pre.length d] 25))
  replace h3 := h3.below (below_new' _ (.cells #[.int .i64 x.o, .int .i64 x.s, .int .i64 x.a, .bool x.ov, .slice A x.adj.length c, .slice B x.pre.length d] 25))
  replace S := S.new' #[.int .i64 y.o, .int .i64 y.s, .int .i64 y.a, .bool y.ov, .slice A' y.adj.length c', .slice B' y.pre.length d'] 25 (w.heap.size + 1) _ (by first | rfl | simp) rfl
  replace h1 := h1.below (below_new' _ (.cells #[.int .i64 y.o, .int .i64 y.s, .int .i64 y.a, .bool y.ov, .slice A' y.adj.length c', .slice B' y.pre.length d'] 25))
  replace h2 := h2.below (below_new' _ (.cells #[.int .i64 y.o, .int .i64 y.s, .int .i64 y.a, .bool y.ov, .slice A' y.adj.length c', .slice B' y.pre.length d'] 25))
  replace h3 := h3.below (below_new' _ (.cells #[.int .i64 y.o, .int .i64 y.s, .int .i64 y.a, .bool y.ov, .slice A' y.adj.length c', .slice B' y.pre.length d'] 25))
  replace S := S.new' #[.int .i64 z.o, .int .i64 z.s, .int .i64 z.a, .bool z.ov, .slice A2 z.adj.length c2, .slice B2 z.pre.length d2] 25 (w.heap.size + 2) _ (by first | rfl | simp) rfl
  replace h1 := h1.below (below_new' _ (.cells #[.int .i64 z.o, .int .i64 z.s, .int .i64 z.a, .bool z.ov, .slice A2 z.adj.length c2, .slice B2 z.pre.length d2] 25))
  replace h2 := h2.below (below_new' _ (.cells #[.int .i64 z.o, .int .i64 z.s, .int .i64 z.a, .bool z.ov, .slice A2 z.adj.length c2, .slice B2 z.pre.length d2] 25))
  replace h3 := h3.below (below_new' _ (.cells #[.int .i64 z.o, .int .i64 z.s, .int .i64 z.a, .bool z.ov, .slice A2 z.adj.length c2, .slice B2 z.pre.length d2] 25))
  have F1 := fun W hb => few_any W _ x (h1.below hb)
  have F2 := fun W hb => few_any W _ y (h2.below hb)
  have F3 := fun W hb => few_any W _ z (h3.below hb)
  have V1 := fun W hb => rvalid_at W _ x (h1.below hb)
  have V2 := fun W hb => rvalid_at W _ y (h2.below hb)
  have V3 := fun W hb => rvalid_at W _ z (h3.below hb)
  have N1 := fun W hb => lnewer_any W _ _ x y (h1.below hb) (h2.below hb)
  have N2 := fun W hb => lnewer_any W _ _ y z (h2.below hb) (h3.below hb)
  have N3 := fun W hb => lnewer_any W _ _ x z (h1.below hb) (h3.below hb)
  have N4 := fun W hb => lnewer_any W _ _ y x (h2.below hb) (h1.below hb)
  have N5 := fun W hb => lsame_any W _ _ x y (h1.below hb) (h2.below hb)
  have hall : vB x = true → vB y = true → vB z = true → (newI y x = - newI x y) ∧ ((newI x y == 0) = sameB x y) ∧ (0 ≤ newI x y → 0 ≤ newI y z → 0 ≤ newI x z ∧ (newI x y + newI y z = 0 ↔ newI x z = 0)) ∧ (newI x y ≤ 0 → newI y z ≤ 0 → (newI x y < 0 ∨ newI y z < 0) → newI x z < 0) ∧ (-1 ≤ newI x y ∧ newI x y ≤ 1) ∧ (-1 ≤ newI y z ∧ newI y z ≤ 1) ∧ (-1 ≤ newI x z ∧ newI x z ≤ 1) :=
    fun v1 v2 v3 => ⟨newI_neg (vB_iff.1 v1) (vB_iff.1 v2), newI_zero ⟨vB_iff.1 v1, u1⟩ ⟨vB_iff.1 v2, u2⟩, newI_tr (vB_iff.1 v1) (vB_iff.1 v2) (vB_iff.1 v3), newI_tr2 (vB_iff.1 v1) (vB_iff.1 v2) (vB_iff.1 v3), newI_bd (vB_iff.1 v1) (vB_iff.1 v2), newI_bd (vB_iff.1 v2) (vB_iff.1 v3), newI_bd (vB_iff.1 v1) (vB_iff.1 v3)⟩
  generalize fewB x = f1 at *
  generalize fewB y = f2 at *
  generalize fewB z = f3 at *
  generalize vB x = v1 at *
  generalize vB y = v2 at *
  generalize vB z = v3 at *
  generalize newI x y = p at *
  generalize newI y z = q at *
  generalize newI x z = r at *
  generalize newI y x = p' at *
  generalize sameB x y = sb at *
  replace F1 := Lib.hid F1
  replace F2 := Lib.hid F2
  replace F3 := Lib.hid F3
  replace V1 := Lib.hid V1
  replace V2 := Lib.hid V2
  replace V3 := Lib.hid V3
  replace N1 := Lib.hid N1
  replace N2 := Lib.hid N2
  replace N3 := Lib.hid N3
  replace N4 := Lib.hid N4
  replace N5 := Lib.hid N5
  replace hall := Lib.hid hall
  clear h1 h2 h3 u1 u2 u3
  have B1 := Below.refl (w.alloc (.cells #[.int .i64 x.o, .int .i64 x.s, .int .i64 x.a, .bool x.ov, .slice A x.adj.length c, .slice B x.pre.length d] 25) |>.alloc (.cells #[.int .i64 y.o, .int .i64 y.s, .int .i64 y.a, .bool y.ov, .slice A' y.adj.length c', .slice B' y.pre.length d'] 25) |>.alloc (.cells #[.int .i64 z.o, .int .i64 z.s, .int .i64 z.a, .bool z.ov, .slice A2 z.adj.length c2, .slice B2 z.pre.length d2] 25)).heap.size (w.alloc (.cells #[.int .i64 x.o, .int .i64 x.s, .int .i64 x.a, .bool x.ov, .slice A x.adj.length c, .slice B x.pre.length d] 25) |>.alloc (.cells #[.int .i64 y.o, .int .i64 y.s, .int .i64 y.a, .bool y.ov, .slice A' y.adj.length c', .slice B' y.pre.length d'] 25) |>.alloc (.cells #[.int .i64 z.o, .int .i64 z.s, .int .i64 z.a, .bool z.ov, .slice A2 z.adj.length c2, .slice B2 z.pre.length d2] 25))
  go_enter Try.func9, Try.ntmps9
  go_wp2_with fail
  (with_reducible refine (awake_any _).mono ?_)
  rintro e w1 ⟨rfl, hb⟩
  replace S := S.call hb
  replace B1 := B1.trans (hb.mono B1.size)
  clear hb
  have c0 := S.c 2 0 rfl rfl
  have c1 := S.c 2 1 rfl rfl
  have c2 := S.c 2 2 rfl rfl
  have c3 := S.c 2 3 rfl rfl
  have c4 := S.c 2 4 rfl rfl
  have c5 := S.c 2 5 rfl rfl
  go_wp2_with fail
  (with_reducible refine (F1.out _ B1).mono ?_)
  rintro e w2 ⟨rfl, hb⟩
  replace S := S.call hb
  replace B1 := B1.trans (hb.mono B1.size)
  clear hb
  clear c0 c1 c2 c3 c4 c5
  cases f1 with
  | false =>
    go_wp2_with fail
    go_ret
    exact ⟨rfl, S.b⟩
  | true =>
  have c0 := S.c 1 0 rfl rfl
  have c1 := S.c 1 1 rfl rfl
  have c2 := S.c 1 2 rfl rfl
  have c3 := S.c 1 3 rfl rfl
  have c4 := S.c 1 4 rfl rfl
  have c5 := S.c 1 5 rfl rfl
  go_wp2_with fail
  (with_reducible refine (F2.out _ B1).mono ?_)
  rintro e w2 ⟨rfl, hb⟩
  replace S := S.call hb
  replace B1 := B1.trans (hb.mono B1.size)
  clear hb
  clear c0 c1 c2 c3 c4 c5
  cases f2 with
  | false =>
    go_wp2_with fail
    go_ret
    exact ⟨rfl, S.b⟩
  | true =>
  have c0 := S.c 0 0 rfl rfl
  have c1 := S.c 0 1 rfl rfl
  have c2 := S.c 0 2 rfl rfl
  have c3 := S.c 0 3 rfl rfl
  have c4 := S.c 0 4 rfl rfl
  have c5 := S.c 0 5 rfl rfl
  go_wp2_with fail
  (with_reducible refine (F3.out _ B1).mono ?_)
  rintro e w2 ⟨rfl, hb⟩
  replace S := S.call hb
  replace B1 := B1.trans (hb.mono B1.size)
  clear hb
  clear c0 c1 c2 c3 c4 c5
  cases f3 with
  | false =>
    go_wp2_with fail
    go_ret
    exact ⟨rfl, S.b⟩
  | true =>
  have c0 := S.c 2 0 rfl rfl
  have c1 := S.c 2 1 rfl rfl
  have c2 := S.c 2 2 rfl rfl
  have c3 := S.c 2 3 rfl rfl
  have c4 := S.c 2 4 rfl rfl
  have c5 := S.c 2 5 rfl rfl
  go_wp2_with fail
  (with_reducible refine (V1.out _ B1).mono ?_)
  rintro e w2 ⟨rfl, hb⟩
  replace S := S.call hb
  replace B1 := B1.trans (hb.mono B1.size)
  clear hb
  clear c0 c1 c2 c3 c4 c5
  cases v1 with
  | false =>
    go_wp2_with fail
    go_ret
    exact ⟨rfl, S.b⟩
  | true =>
  have c0 := S.c 1 0 rfl rfl
  have c1 := S.c 1 1 rfl rfl
  have c2 := S.c 1 2 rfl rfl
  have c3 := S.c 1 3 rfl rfl
  have c4 := S.c 1 4 rfl rfl
  have c5 := S.c 1 5 rfl rfl
  go_wp2_with fail
  (with_reducible refine (V2.out _ B1).mono ?_)
  rintro e w2 ⟨rfl, hb⟩
  replace S := S.call hb
  replace B1 := B1.trans (hb.mono B1.size)
  clear hb
  clear c0 c1 c2 c3 c4 c5
  cases v2 with
  | false =>
    go_wp2_with fail
    go_ret
    exact ⟨rfl, S.b⟩
  | true =>
  have c0 := S.c 0 0 rfl rfl
  have c1 := S.c 0 1 rfl rfl
  have c2 := S.c 0 2 rfl rfl
  have c3 := S.c 0 3 rfl rfl
  have c4 := S.c 0 4 rfl rfl
  have c5 := S.c 0 5 rfl rfl
  go_wp2_with fail
  (with_reducible refine (V3.out _ B1).mono ?_)
  rintro e w3 ⟨rfl, hb⟩
  replace S := S.call hb
  replace B1 := B1.trans (hb.mono B1.size)
  clear hb
  clear c0 c1 c2 c3 c4 c5
  cases v3 with
  | false =>
    go_wp2_with fail
    go_ret
    exact ⟨rfl, S.b⟩
  | true =>
  obtain ⟨e1, e2, e3, e4, e5, e6, e7⟩ := hall.out (by simp) (by simp) (by simp)
  subst e1 e2
  clear hall F1 F2 F3 V1 V2 V3
  replace e3 := Lib.hid e3
  replace e4 := Lib.hid e4
  go_wp2_with fail
  have a0 := cell_regrown (S.c 2 0 rfl rfl)
  have a1 := cell_regrown (S.c 2 1 rfl rfl)
  have a2 := cell_regrown (S.c 2 2 rfl rfl)
  have a3 := cell_regrown (S.c 2 3 rfl rfl)
  have a4 := cell_regrown (S.c 2 4 rfl rfl)
  have a5 := cell_regrown (S.c 2 5 rfl rfl)
  have b0 := cell_regrown (S.c 1 0 rfl rfl)
  have b1 := cell_regrown (S.c 1 1 rfl rfl)
  have b2 := cell_regrown (S.c 1 2 rfl rfl)
  have b3 := cell_regrown (S.c 1 3 rfl rfl)
  have b4 := cell_regrown (S.c 1 4 rfl rfl)
  have b5 := cell_regrown (S.c 1 5 rfl rfl)
  have c0 := cell_regrown (S.c 0 0 rfl rfl)
  have c1 := cell_regrown (S.c 0 1 rfl rfl)
  have c2 := cell_regrown (S.c 0 2 rfl rfl)
  have c3 := cell_regrown (S.c 0 3 rfl rfl)
  have c4 := cell_regrown (S.c 0 4 rfl rfl)
  have c5 := cell_regrown (S.c 0 5 rfl rfl)
  refine wp_region_quiet_below (by kernel_rfl) (by kernel_rfl) ?_
  repeat (go_big_quiet_step ((first | (go_at_call 21; with_reducible exact Calls.regrown_of (N1.out _ (belowR B1 _ _ B1.size))) | (go_at_call 21; with_reducible exact Calls.regrown_of (N2.out _ (belowR B1 _ _ B1.size))) | (go_at_call 21; with_reducible exact Calls.regrown_of (N3.out _ (belowR B1 _ _ B1.size))))))
  refine wpQuiet_nil ?_
  intro _ hw'
  obtain ⟨⟨dq, osq⟩, hw''⟩ := hw'
  subst hw''
  replace S := S.call (below_regrown _ dq osq)
  replace B1 := belowR B1 dq osq B1.size
  generalize grow (redrawn _ dq) osq = w4 at *
  clear a0 a1 a2 a3 a4 a5
  clear b0 b1 b2 b3 b4 b5
  clear c0 c1 c2 c3 c4 c5
  have a0 := S.c 2 0 rfl rfl
  have a1 := S.c 2 1 rfl rfl
  have a2 := S.c 2 2 rfl rfl
  have a3 := S.c 2 3 rfl rfl
  have a4 := S.c 2 4 rfl rfl
  have a5 := S.c 2 5 rfl rfl
  have b0 := S.c 1 0 rfl rfl
  have b1 := S.c 1 1 rfl rfl
  have b2 := S.c 1 2 rfl rfl
  have b3 := S.c 1 3 rfl rfl
  have b4 := S.c 1 4 rfl rfl
  have b5 := S.c 1 5 rfl rfl
  obtain rfl | rfl | rfl : p = -1 ∨ p = 0 ∨ p = 1 := by omega
  all_goals
    go_wp2_with fail
    (with_reducible refine (N4.out _ B1).mono ?_)
    rintro e w5 ⟨rfl, hb⟩
    replace S := S.call hb
    replace B1 := B1.trans (hb.mono B1.size)
    clear hb
    clear a0 a1 a2 a3 a4 a5
    clear b0 b1 b2 b3 b4 b5
    have a0 := S.c 2 0 rfl rfl
    have a1 := S.c 2 1 rfl rfl
    have a2 := S.c 2 2 rfl rfl
    have a3 := S.c 2 3 rfl rfl
    have a4 := S.c 2 4 rfl rfl
    have a5 := S.c 2 5 rfl rfl
    have b0 := S.c 1 0 rfl rfl
    have b1 := S.c 1 1 rfl rfl
    have b2 := S.c 1 2 rfl rfl
    have b3 := S.c 1 3 rfl rfl
    have b4 := S.c 1 4 rfl rfl
    have b5 := S.c 1 5 rfl rfl
    go_wp2_with fail
    (with_reducible refine (N5.out _ B1).mono ?_)
    rintro e w6 ⟨rfl, hb⟩
    replace S := S.call hb
    replace B1 := B1.trans (hb.mono B1.size)
    clear hb
    clear a0 a1 a2 a3 a4 a5
    clear b0 b1 b2 b3 b4 b5
    obtain rfl | rfl | rfl : q = -1 ∨ q = 0 ∨ q = 1 := by omega
    all_goals
      obtain rfl | rfl | rfl : r = -1 ∨ r = 0 ∨ r = 1 := by omega
      all_goals
        first
        | (exfalso; have a1 := e3.out; have a2 := e4.out; omega)
        | (clear e3 e4; go_wp2_with fail; go_ret; exact ⟨rfl, S.b⟩)

end Go.Proofs.Ytpcbgmnldpbamaa
