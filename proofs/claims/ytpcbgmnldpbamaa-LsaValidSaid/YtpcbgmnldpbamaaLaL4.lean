/-
  The walk of the statement LsaValid.
-/
import Derived.Test.YtpcbgmnldpbamaaLaL2
import Derived.Deep.RegionLaw
import Derived.Deep.RegionHeld3
namespace Go.Proofs.Ytpcbgmnldpbamaa
set_option linter.unusedVariables false
open Go.RowKit Go.Sort

set_option maxRecDepth 100000 in
set_option maxHeartbeats 12800000 in
theorem valid_law (w : World) (v : Value) (x : La) (hx : LaAt w v x) :
    Calls Try.prog 3 #[v] w fun e w' => e = .returned (.bool true) ∧ Below w.heap.size w w' := by
  obtain ⟨A, c, B, d, rfl, h1⟩ := hx.opened
  have u1 := hx.ok
  clear hx
  have S := (St.start w).new' #[.int .i64 x.o, .int .i64 x.s, .int .i64 x.a, .bool x.ov, .slice A x.adj.length c, .slice B x.pre.length d] 25 w.heap.size _ rfl rfl
  have F1 := fun W hb => few_any W _ x (h1.below hb)
  have V1 := fun W hb => valid_at W _ x (h1.below hb)
  have V2 := fun W hb => rvalid_at W _ x (h1.below hb)
  have R1 := fun W hb => rpurge_any W _ x (h1.below hb)
  generalize fewB x = f1 at *
  replace F1 := Lib.hid F1
  replace R1 := Lib.hid R1
  go_enter Try.func3, Try.ntmps3
  go_wp2_with fail
  (with_reducible refine (awake_any _).mono ?_)
  rintro e w1 ⟨rfl, hb⟩
  replace S := S.call hb
  clear hb
  have a0 := S.c 0 0 rfl rfl
  have a1 := S.c 0 1 rfl rfl
  have a2 := S.c 0 2 rfl rfl
  have a3 := S.c 0 3 rfl rfl
  have a4 := S.c 0 4 rfl rfl
  have a5 := S.c 0 5 rfl rfl
  go_wp2_with fail
  (with_reducible refine (F1.out _ S.b).mono ?_)
  rintro e w2 ⟨rfl, hb⟩
  replace S := S.call hb
  clear hb
  clear a0 a1 a2 a3 a4 a5
  clear F1
  cases f1 with
  | false =>
    go_wp2_with fail
    go_ret
    exact ⟨rfl, S.b⟩
  | true =>
  have a0 := S.c 0 0 rfl rfl
  have a1 := S.c 0 1 rfl rfl
  have a2 := S.c 0 2 rfl rfl
  have a3 := S.c 0 3 rfl rfl
  have a4 := S.c 0 4 rfl rfl
  have a5 := S.c 0 5 rfl rfl
  by_cases hv : LaValid x
  case' pos =>
    rw [vB_t hv] at V1 V2
    replace V1 := Lib.hid V1
    replace V2 := Lib.hid V2
    have E := enc_t _ _ x (h1.below S.b) hv
    have E2 := fun W hb => renc_at W _ x (h1.below hb) hv
    have P1 := fun W hb => pur_t W _ x (h1.below hb) hv
    have VP := fun W p hp => valid_at W p (purgeX x) hp
    rw [vB_t (purge_valid hv)] at VP
    have EQ := fun W p q hp hq => equal_any W p q (purgeX x) (purgeX x) hp hq
    rw [equB_refl] at EQ
    unfold EncT at E
    unfold REncPost at E2
    generalize laEnc x = bs at *
    obtain ⟨n, hn⟩ : ∃ n, bs.length = n := ⟨_, rfl⟩
    rw [hn] at E E2
    replace hn := Lib.hid hn
    replace E := Lib.hid E
    replace E2 := Lib.hid E2
    replace P1 := Lib.hid P1
    replace VP := Lib.hid VP
    replace EQ := Lib.hid EQ
    clear hv h1 u1
    go_wp2_with fail
    (with_reducible refine (E.out).mono ?_)
    rintro e w3 ⟨A3, c3, rfl, hown3, _, _, hb⟩
    replace S := S.call hb
    clear hb
    clear a0 a1 a2 a3 a4 a5
    clear E
    have a0 := S.c 0 0 rfl rfl
    have a1 := S.c 0 1 rfl rfl
    have a2 := S.c 0 2 rfl rfl
    have a3 := S.c 0 3 rfl rfl
    have a4 := S.c 0 4 rfl rfl
    have a5 := S.c 0 5 rfl rfl
    obtain ⟨_, _, e9, rd3, _, _⟩ := own_rd hown3
    simp only [Value.slice.injEq, true_and] at e9
    obtain ⟨rfl, rfl⟩ := e9
    clear hown3
    go_wp2_with fail
    (with_reducible refine (P1.out _ S.b).mono ?_)
    rintro e w4 ⟨A7, c7, B7, d7, rfl, hL7, hb⟩
    clear a0 a1 a2 a3 a4 a5
    replace S := S.call hb
    replace rd3 := rd3.below hb
    clear hb P1
    have h7 := hL7.out _ (Below.refl _ _)
    clear hL7
    replace S := S.new' #[.int .i64 x.o, .int .i64 x.s, .int .i64 3600, .bool false, .slice A7 0 c7, .slice B7 0 d7] 25 (w4.heap.size) _ (by first | rfl | simp) rfl
    replace h7 := h7.below (below_new' _ (.cells #[.int .i64 x.o, .int .i64 x.s, .int .i64 3600, .bool false, .slice A7 0 c7, .slice B7 0 d7] 25))
    replace rd3 := rd3.below (below_new' _ (.cells #[.int .i64 x.o, .int .i64 x.s, .int .i64 3600, .bool false, .slice A7 0 c7, .slice B7 0 d7] 25))
    go_wp2_with fail
    generalize hw5 : World.alloc w4 _ = w5 at *
    clear hw5
    have a0 := cell_regrown (S.c 1 0 rfl rfl)
    have a1 := cell_regrown (S.c 1 1 rfl rfl)
    have a2 := cell_regrown (S.c 1 2 rfl rfl)
    have a3 := cell_regrown (S.c 1 3 rfl rfl)
    have a4 := cell_regrown (S.c 1 4 rfl rfl)
    have a5 := cell_regrown (S.c 1 5 rfl rfl)
    refine wp_region_quiet_below (by kernel_rfl) (by kernel_rfl) ?_
    repeat (go_big_quiet_step ((first | (go_at_call 14; with_reducible exact Calls.regrown_of (V1.out _ (belowR S.b _ _ S.b.size))) | (go_at_call 15; with_reducible exact Calls.regrown_of (V2.out _ (belowR S.b _ _ S.b.size))))))
    refine wpQuiet_nil ?_
    intro _ hw'
    obtain ⟨⟨dq, osq⟩, hw''⟩ := hw'
    subst hw''
    replace S := S.call (below_regrown _ dq osq)
    replace h7 := h7.below (below_regrown _ dq osq)
    replace rd3 := rd3.below (below_regrown _ dq osq)
    generalize grow (redrawn _ dq) osq = w6 at *
    clear a0 a1 a2 a3 a4 a5
    have a0 := S.c 1 0 rfl rfl
    have a1 := S.c 1 1 rfl rfl
    have a2 := S.c 1 2 rfl rfl
    have a3 := S.c 1 3 rfl rfl
    have a4 := S.c 1 4 rfl rfl
    have a5 := S.c 1 5 rfl rfl
    have p0 := S.c 0 0 rfl rfl
    have p1 := S.c 0 1 rfl rfl
    have p2 := S.c 0 2 rfl rfl
    have p3 := S.c 0 3 rfl rfl
    have p4 := S.c 0 4 rfl rfl
    have p5 := S.c 0 5 rfl rfl
    go_wp2_with fail
    (with_reducible refine (V2.out _ S.b).mono ?_)
    rintro e w7 ⟨rfl, hb⟩
    clear a0 a1 a2 a3 a4 a5
    clear p0 p1 p2 p3 p4 p5
    replace S := S.call hb
    replace h7 := h7.below hb
    replace rd3 := rd3.below hb
    clear hb V1 V2
    go_wp2_with fail
    have T7 := S.drew
    have h8 : LaAt w7.drew _ _ := h7
    have rd4 : Bs w7.drew A3 bs := rd3
    have CV := fun W A4 a4 (h : Bs W A4 bs) => conv_bytes (P := Try.prog) W (src := 28) (dst := 9) (e := 5) Try.underlying28 Try.underlying5 Try.underlying9 (cap := a4) h hn.out
    replace CV := Lib.hid CV
    have cv0 := CV.out _ _ c3 rd3
    have cv1 := CV.out _ _ c3 rd4
    have hbs : (bs == bs) = true := by simp
    have a0 := T7.c 1 0 rfl rfl
    have a1 := T7.c 1 1 rfl rfl
    have a2 := T7.c 1 2 rfl rfl
    have a3 := T7.c 1 3 rfl rfl
    have a4 := T7.c 1 4 rfl rfl
    have a5 := T7.c 1 5 rfl rfl
    have p0 := T7.c 0 0 rfl rfl
    have p1 := T7.c 0 1 rfl rfl
    have p2 := T7.c 0 2 rfl rfl
    have p3 := T7.c 0 3 rfl rfl
    have p4 := T7.c 0 4 rfl rfl
    have p5 := T7.c 0 5 rfl rfl
    have tok1 : True := trivial
    have tok2 : True := trivial
    have tok3 : True := trivial
    clear S
    go_region_law
      (first
        | (clear tok1; rw [if_pos (by simp [Region.wanted, yielded])]; go_simp; (with_reducible refine (E2.out _ T7.b).mono ?_); rintro e w8 ⟨A8, c8, rfl, hown8, hb8⟩; have T8 := T7.call hb8; have h9 := h8.below hb8; obtain ⟨_, _, e9, rd8, _, _⟩ := own_rd hown8; simp only [Value.slice.injEq, true_and] at e9; obtain ⟨rfl, rfl⟩ := e9; have cv2 := CV.out _ _ c3 (rd4.below hb8); have cv3 := CV.out _ _ c8 rd8; have a0 := T8.c 1 0 rfl rfl; have a1 := T8.c 1 1 rfl rfl; have a2 := T8.c 1 2 rfl rfl; have a3 := T8.c 1 3 rfl rfl; have a4 := T8.c 1 4 rfl rfl; have a5 := T8.c 1 5 rfl rfl; have p0 := T8.c 0 0 rfl rfl; have p1 := T8.c 0 1 rfl rfl; have p2 := T8.c 0 2 rfl rfl; have p3 := T8.c 0 3 rfl rfl; have p4 := T8.c 0 4 rfl rfl; have p5 := T8.c 0 5 rfl rfl; dsimp only)
        | (clear tok2; rw [if_pos (by simp [Region.wanted, yielded])]; go_simp; (with_reducible refine (R1.out _ T8.b).mono ?_); rintro e w9 ⟨rfl, hb9⟩; have T9 := T8.call hb9; have h10 := h9.below hb9; have cv4 := CV.out _ _ c3 ((rd4.below hb8).below hb9); have cv5 := CV.out _ _ c8 (rd8.below hb9); have p0 := T9.c 0 0 rfl rfl; have p1 := T9.c 0 1 rfl rfl; have p2 := T9.c 0 2 rfl rfl; have p3 := T9.c 0 3 rfl rfl; have p4 := T9.c 0 4 rfl rfl; have p5 := T9.c 0 5 rfl rfl; dsimp only)
        | (clear tok3; rw [if_pos (by simp [Region.wanted, yielded])]; go_simp; (with_reducible refine (EQ.out _ _ _ h10 (purge_own _ 0 x).at).mono ?_); rintro e w10 ⟨rfl, hb10⟩; have T10 := T9.call hb10; have h11 := h10.below hb10; have p0 := T10.c 0 0 rfl rfl; have p1 := T10.c 0 1 rfl rfl; have p2 := T10.c 0 2 rfl rfl; have p3 := T10.c 0 3 rfl rfl; have p4 := T10.c 0 4 rfl rfl; have p5 := T10.c 0 5 rfl rfl; dsimp only)
        | (rw [if_pos (by simp [Region.wanted, yielded])]; go_simp; (with_reducible refine (VP.out _ _ h11).mono ?_); rintro e w11 ⟨rfl, hb11⟩; have T11 := T10.call hb11; dsimp only))
    all_goals
      go_wp2_with fail
      go_ret
      exact ⟨rfl, T11.b⟩
  case' neg =>
    rw [vB_f hv] at V1 V2
    replace V1 := Lib.hid V1
    replace V2 := Lib.hid V2
    have E := enc_f _ _ x (h1.below S.b) hv
    have P1 := fun W hb => pur_f W _ x (h1.below hb) hv
    replace E := Lib.hid E
    replace P1 := Lib.hid P1
    clear hv h1 u1
    go_wp2_with fail
    (with_reducible refine (E.out).mono ?_)
    rintro e w3 ⟨A3, c3, rfl, hb⟩
    replace S := S.call hb
    clear hb
    clear a0 a1 a2 a3 a4 a5
    clear E
    have a0 := S.c 0 0 rfl rfl
    have a1 := S.c 0 1 rfl rfl
    have a2 := S.c 0 2 rfl rfl
    have a3 := S.c 0 3 rfl rfl
    have a4 := S.c 0 4 rfl rfl
    have a5 := S.c 0 5 rfl rfl
    go_wp2_with fail
    (with_reducible refine (P1.out _ S.b).mono ?_)
    rintro e w4 ⟨A7, c7, B7, d7, rfl, hL7, hb⟩
    clear a0 a1 a2 a3 a4 a5
    replace S := S.call hb
    clear hb P1
    have h7 := hL7.out _ (Below.refl _ _)
    clear hL7
    replace S := S.new' #[.int .i64 0, .int .i64 0, .int .i64 0, .bool false, .slice A7 0 c7, .slice B7 0 d7] 25 (w4.heap.size) _ (by first | rfl | simp) rfl
    replace h7 := h7.below (below_new' _ (.cells #[.int .i64 0, .int .i64 0, .int .i64 0, .bool false, .slice A7 0 c7, .slice B7 0 d7] 25))
    go_wp2_with fail
    generalize hw5 : World.alloc w4 _ = w5 at *
    clear hw5
    have a0 := cell_regrown (S.c 1 0 rfl rfl)
    have a1 := cell_regrown (S.c 1 1 rfl rfl)
    have a2 := cell_regrown (S.c 1 2 rfl rfl)
    have a3 := cell_regrown (S.c 1 3 rfl rfl)
    have a4 := cell_regrown (S.c 1 4 rfl rfl)
    have a5 := cell_regrown (S.c 1 5 rfl rfl)
    refine wp_region_quiet_below (by kernel_rfl) (by kernel_rfl) ?_
    repeat (go_big_quiet_step ((first | (go_at_call 14; with_reducible exact Calls.regrown_of (V1.out _ (belowR S.b _ _ S.b.size))) | (go_at_call 15; with_reducible exact Calls.regrown_of (V2.out _ (belowR S.b _ _ S.b.size))))))
    refine wpQuiet_nil ?_
    intro _ hw'
    obtain ⟨⟨dq, osq⟩, hw''⟩ := hw'
    subst hw''
    replace S := S.call (below_regrown _ dq osq)
    replace h7 := h7.below (below_regrown _ dq osq)
    generalize grow (redrawn _ dq) osq = w6 at *
    clear a0 a1 a2 a3 a4 a5
    have a0 := S.c 1 0 rfl rfl
    have a1 := S.c 1 1 rfl rfl
    have a2 := S.c 1 2 rfl rfl
    have a3 := S.c 1 3 rfl rfl
    have a4 := S.c 1 4 rfl rfl
    have a5 := S.c 1 5 rfl rfl
    have p0 := S.c 0 0 rfl rfl
    have p1 := S.c 0 1 rfl rfl
    have p2 := S.c 0 2 rfl rfl
    have p3 := S.c 0 3 rfl rfl
    have p4 := S.c 0 4 rfl rfl
    have p5 := S.c 0 5 rfl rfl
    go_wp2_with fail
    (with_reducible refine (V2.out _ S.b).mono ?_)
    rintro e w7 ⟨rfl, hb⟩
    clear a0 a1 a2 a3 a4 a5
    clear p0 p1 p2 p3 p4 p5
    replace S := S.call hb
    replace h7 := h7.below hb
    clear hb V1 V2
    have p0 := S.c 0 0 rfl rfl
    have p1 := S.c 0 1 rfl rfl
    have p2 := S.c 0 2 rfl rfl
    have p3 := S.c 0 3 rfl rfl
    have p4 := S.c 0 4 rfl rfl
    have p5 := S.c 0 5 rfl rfl
    have EQ := equal_any _ _ _ laZero laZero h7 (laZero_at _)
    rw [equB_refl] at EQ
    replace EQ := Lib.hid EQ
    clear h7
    go_wp2_with fail
    (with_reducible refine (EQ.out).mono ?_)
    rintro e w9 ⟨rfl, hb⟩
    replace S := S.call hb
    go_wp2_with fail
    go_ret
    exact ⟨rfl, S.b⟩

end Go.Proofs.Ytpcbgmnldpbamaa
