/-
  The walks of the statements LsaRoundTrip, LsaSpoiled.
-/
import Derived.Test.YtpcbgmnldpbamaaLaL1
namespace Go.Proofs.Ytpcbgmnldpbamaa
set_option linter.unusedVariables false
open Go.RowKit Go.Sort

theorem laZero_at (w : World) : LaAt w (laV 0 0 0 false none 0 0 none 0 0) laZero := (laZero_own w w.heap.size).at

set_option maxRecDepth 100000 in
set_option maxHeartbeats 6400000 in
theorem trip_law (w : World) (v : Value) (x : La) (hx : LaAt w v x) (B0 : Option Addr) (n cap : Nat) (bs : List UInt8) (hr : Bs w B0 bs) (hn : bs.length = n) (hnc : n ≤ cap) (hm : cap ≤ maxLen) :
    Calls Try.prog 5 #[v, .slice B0 n cap] w fun e w' => e = .returned (.bool true) ∧ Below w.heap.size w w' := by
  unfold maxLen at hm
  obtain ⟨A, c, B, d, rfl, h1⟩ := hx.opened
  have u1 := hx.ok
  clear hx
  have S := (St.start w).read hr
  replace S := S.new' #[.int .i64 x.o, .int .i64 x.s, .int .i64 x.a, .bool x.ov, .slice A x.adj.length c, .slice B x.pre.length d] 25 (w.heap.size) _ (by first | rfl | simp) rfl
  replace h1 := h1.below (below_new' _ (.cells #[.int .i64 x.o, .int .i64 x.s, .int .i64 x.a, .bool x.ov, .slice A x.adj.length c, .slice B x.pre.length d] 25))
  have hbl : (laEnc x).length = 17 + x.adj.length * 9 + x.pre.length * 8 := laEnc_len x
  have hfl : fewB x = true → (laEnc x).length ≤ 100000 := fun h => by have := fewB_t h; omega
  have D2 := fun W h hn2 => dec_at W B0 n cap bs _ _ rfl rfl h hn hnc hm hn2
  have hcs := ldec_cases bs
  replace D2 := Lib.hid D2
  replace hn := Lib.hid hn
  replace hfl := Lib.hid hfl
  clear hbl hr
  have F1 := few_any _ _ x (h1.below (Below.refl _ _))
  go_enter Try.func5, Try.ntmps5
  go_wp2_with fail
  (with_reducible refine (awake_any _).mono ?_)
  rintro e w1 ⟨rfl, hb⟩
  replace S := S.call hb
  replace h1 := h1.below hb
  clear hb
  clear F1
  have F1 := few_any _ _ x h1
  obtain ⟨f1, hf1⟩ : ∃ f1, fewB x = f1 := ⟨_, rfl⟩
  rw [hf1] at F1
  replace F1 := Lib.hid F1
  replace hf1 := Lib.hid hf1
  have a0 := S.c 0 0 rfl rfl
  have a1 := S.c 0 1 rfl rfl
  have a2 := S.c 0 2 rfl rfl
  have a3 := S.c 0 3 rfl rfl
  have a4 := S.c 0 4 rfl rfl
  have a5 := S.c 0 5 rfl rfl
  go_wp2_with fail
  (with_reducible refine (F1.out).mono ?_)
  rintro e w2 ⟨rfl, hb⟩
  replace S := S.call hb
  replace h1 := h1.below hb
  clear hb
  clear a0 a1 a2 a3 a4 a5
  clear F1
  cases f1 with
  | false =>
    go_wp2_with fail
    go_ret
    exact ⟨rfl, S.b⟩
  | true =>
  by_cases hl : 500 < n
  · have hl' : (500 : Int) < n := by omega
    go_wp2_with fail
    go_ret
    exact ⟨rfl, S.b⟩
  have hl' : ¬ (500 : Int) < n := by omega
  have a0 := S.c 0 0 rfl rfl
  have a1 := S.c 0 1 rfl rfl
  have a2 := S.c 0 2 rfl rfl
  have a3 := S.c 0 3 rfl rfl
  have a4 := S.c 0 4 rfl rfl
  have a5 := S.c 0 5 rfl rfl
  have hlen := hfl.out hf1.out
  clear hf1 hfl
  by_cases hv : LaValid x
  case' pos =>
    have E := enc_t _ _ x h1 hv
    obtain ⟨d1, d2⟩ := ldec_yes (bs := laEnc x) ⟨⟨hv, u1⟩, rfl⟩
    have D1 := fun W A1 c1 h hc hm => dec_at W A1 (laEnc x).length c1 (laEnc x) 0 x d1 d2 h rfl hc hm hlen
    replace D1 := Lib.hid D1
    replace E := Lib.hid E
    clear hv d1 d2 u1
    go_wp2_with fail
    (with_reducible refine (E.out).mono ?_)
    rintro e w3 ⟨A1, c1, rfl, hown, hc1, hm1, hb⟩
    replace S := S.call hb
    replace h1 := h1.below hb
    clear hb
    clear a0 a1 a2 a3 a4 a5
    clear E
    obtain ⟨_, _, e9, rd1, _, _⟩ := own_rd hown
    simp only [Value.slice.injEq, true_and] at e9
    obtain ⟨rfl, rfl⟩ := e9
    clear hown
    replace D1 := Lib.hid (D1.out _ _ _ rd1 hc1 hm1)
    generalize (laEnc x).length = m at *
    go_wp2_with fail
    (with_reducible refine (D1.out).mono ?_)
    rintro e w4 ⟨A2, c2, B2, d2, rfl, hL2, hb⟩
    replace S := S.call hb
    replace h1 := h1.below hb
    clear hb
    clear D1 rd1
    have h2 := hL2.out _ (Below.refl _ _)
    clear hL2
    replace S := S.new' #[.int .i64 x.o, .int .i64 x.s, .int .i64 x.a, .bool x.ov, .slice A2 x.adj.length c2, .slice B2 x.pre.length d2] 25 (w4.heap.size) _ (by first | rfl | simp) rfl
    replace h1 := h1.below (below_new' _ (.cells #[.int .i64 x.o, .int .i64 x.s, .int .i64 x.a, .bool x.ov, .slice A2 x.adj.length c2, .slice B2 x.pre.length d2] 25))
    replace h2 := h2.below (below_new' _ (.cells #[.int .i64 x.o, .int .i64 x.s, .int .i64 x.a, .bool x.ov, .slice A2 x.adj.length c2, .slice B2 x.pre.length d2] 25))
    have a0 := S.c 0 0 rfl rfl
    have a1 := S.c 0 1 rfl rfl
    have a2 := S.c 0 2 rfl rfl
    have a3 := S.c 0 3 rfl rfl
    have a4 := S.c 0 4 rfl rfl
    have a5 := S.c 0 5 rfl rfl
    have b0 := S.c 1 0 rfl rfl
    have b1 := S.c 1 1 rfl rfl
    have b2 := S.c 1 2 rfl rfl
    have b3 := S.c 1 3 rfl rfl
    have b4 := S.c 1 4 rfl rfl
    have b5 := S.c 1 5 rfl rfl
    have EQ := equal_any _ _ _ x x h1 h2
    rw [equB_refl] at EQ
    clear h1 h2
    replace EQ := Lib.hid EQ
    go_wp2_with fail
    (with_reducible refine (EQ.out).mono ?_)
    rintro e w5 ⟨rfl, hb⟩
    replace S := S.call hb
    clear hb
    clear a0 a1 a2 a3 a4 a5
    clear b0 b1 b2 b3 b4 b5
    clear EQ
    go_wp2_with fail
  case' neg =>
    have E := enc_f _ _ x h1 hv
    replace E := Lib.hid E
    clear hv u1 h1
    go_wp2_with fail
    (with_reducible refine (E.out).mono ?_)
    rintro e w3 ⟨A1, c1, rfl, hb⟩
    replace S := S.call hb
    clear hb
    clear a0 a1 a2 a3 a4 a5
    clear E
    go_wp2_with fail
  all_goals
    (with_reducible refine (D2.out _ (S.r 0 rfl) (by omega)).mono ?_)
    rintro e w7 ⟨A7, c7, B7, d7, rfl, hL7, hb⟩
    replace S := S.call hb
    clear hb D2
    have h7 := hL7.out _ (Below.refl _ _)
    clear hL7
    rcases hcs with ⟨V, hV, e1, e2⟩ | ⟨e1, e2⟩
    · rw [e1, e2]
      rw [e2] at h7
      replace S := S.new' #[.int .i64 V.o, .int .i64 V.s, .int .i64 V.a, .bool V.ov, .slice A7 V.adj.length c7, .slice B7 V.pre.length d7] 25 (w7.heap.size) _ (by first | rfl | simp) rfl
      replace h7 := h7.below (below_new' _ (.cells #[.int .i64 V.o, .int .i64 V.s, .int .i64 V.a, .bool V.ov, .slice A7 V.adj.length c7, .slice B7 V.pre.length d7] 25))
      clear e1 e2
      have E := enc_t _ _ V h7 hV.1.1
      unfold EncT at E
      rw [hV.2, hn.out] at E
      have VV := fun W hb => valid_at W _ V (h7.below hb)
      rw [vB_t hV.1.1] at VV
      replace E := Lib.hid E
      replace VV := Lib.hid VV
      clear hV h7
      have a0 := S.c 0 0 rfl rfl
      have a1 := S.c 0 1 rfl rfl
      have a2 := S.c 0 2 rfl rfl
      have a3 := S.c 0 3 rfl rfl
      have a4 := S.c 0 4 rfl rfl
      have a5 := S.c 0 5 rfl rfl
      go_wp2_with fail
      (with_reducible refine E.out.mono ?_)
      rintro e w8 ⟨A8, c8, rfl, hown8, _, _, hb⟩
      have B1 := hb
      replace S := S.call hb
      clear hb E
      obtain ⟨_, _, e9, rd8, _, _⟩ := own_rd hown8
      simp only [Value.slice.injEq, true_and] at e9
      obtain ⟨rfl, rfl⟩ := e9
      clear hown8
      clear a0 a1 a2 a3 a4 a5
      have a0 := S.c 0 0 rfl rfl
      have a1 := S.c 0 1 rfl rfl
      have a2 := S.c 0 2 rfl rfl
      have a3 := S.c 0 3 rfl rfl
      have a4 := S.c 0 4 rfl rfl
      have a5 := S.c 0 5 rfl rfl
      have cv := conv_bytes (P := Try.prog) w8 (src := 28) (dst := 9) (e := 5) Try.underlying28 Try.underlying5 Try.underlying9 (cap := c8) rd8 hn.out
      have cv2 := conv_bytes (P := Try.prog) w8 (src := 28) (dst := 9) (e := 5) Try.underlying28 Try.underlying5 Try.underlying9 (cap := cap) (S.r 0 rfl) hn.out
      clear rd8
      go_wp2_with fail
      (with_reducible refine (VV.out _ B1).mono ?_)
      rintro e w9 ⟨rfl, hb⟩
      replace S := S.call hb
      go_wp2_with fail
      go_ret
      exact ⟨rfl, S.b⟩
    · rw [e2]
      rw [e2] at h7
      replace S := S.new' #[.int .i64 laZero.o, .int .i64 laZero.s, .int .i64 laZero.a, .bool laZero.ov, .slice A7 laZero.adj.length c7, .slice B7 laZero.pre.length d7] 25 (w7.heap.size) _ (by first | rfl | simp) rfl
      replace h7 := h7.below (below_new' _ (.cells #[.int .i64 laZero.o, .int .i64 laZero.s, .int .i64 laZero.a, .bool laZero.ov, .slice A7 laZero.adj.length c7, .slice B7 laZero.pre.length d7] 25))
      have EQ := equal_any _ _ _ laZero laZero h7 (laZero_at _)
      rw [equB_refl] at EQ
      replace EQ := Lib.hid EQ
      have e3 : (ldecE bs != 0) = true := by simpa using e1
      clear e1 e2 h7
      generalize ldecE bs = E at *
      have a0 := S.c 0 0 rfl rfl
      have a1 := S.c 0 1 rfl rfl
      have a2 := S.c 0 2 rfl rfl
      have a3 := S.c 0 3 rfl rfl
      have a4 := S.c 0 4 rfl rfl
      have a5 := S.c 0 5 rfl rfl
      go_wp2_with fail
      (with_reducible refine (EQ.out).mono ?_)
      rintro e w9 ⟨rfl, hb⟩
      replace S := S.call hb
      go_wp2_with fail
      go_ret
      exact ⟨rfl, S.b⟩

theorem u8_ne {a b : UInt8} (h : a ≠ b) : ((a.toNat : Int) == (b.toNat : Int)) = false := by
  rw [beq_eq_false_iff_ne]; intro e; exact h (UInt8.toNat_inj.1 (by omega))
/-- A byte of an encoding was changed. -/
theorem ldec_set {x : La} (k : Nat) (hk : k < (laEnc x).length) (b : UInt8) (hne : (laEnc x)[k] ≠ b) (h1 : ¬ ((laEnc x)[k].toNat = 0 ∧ b.toNat = 255)) (h2 : ¬ ((laEnc x)[k].toNat = 255 ∧ b.toNat = 0)) : ldecE ((laEnc x).set k b) = 5 := by
  have h := chk_changed (laEnc x) (laEnc_chk x) k hk b
  refine ldecE_sum ?_
  rw [h, u8_ne hne]
  have e1 : (((laEnc x)[k].toNat : Int) == 0 && (b.toNat : Int) == 255) = false := by
    rw [Bool.and_eq_false_iff]
    by_cases e : (laEnc x)[k].toNat = 0
    · right; rw [beq_eq_false_iff_ne]; intro e2; exact h1 ⟨e, by omega⟩
    · left; rw [beq_eq_false_iff_ne]; omega
  have e2 : (((laEnc x)[k].toNat : Int) == 255 && (b.toNat : Int) == 0) = false := by
    rw [Bool.and_eq_false_iff]
    by_cases e : (laEnc x)[k].toNat = 255
    · right; rw [beq_eq_false_iff_ne]; intro e2; exact h2 ⟨e, by omega⟩
    · left; rw [beq_eq_false_iff_ne]; omega
  rw [e1, e2]; rfl

set_option maxRecDepth 100000 in
set_option maxHeartbeats 6400000 in
theorem spoiled_law (w : World) (v : Value) (x : La) (hx : LaAt w v x) (p : Int) (hp : (Lit.int .u16 p).wf = true) (z : Int) (hz : (Lit.int .u8 z).wf = true) :
    Calls Try.prog 6 #[v, .int .u16 p, .int .u8 z] w fun e w' => e = .returned (.bool true) ∧ Below w.heap.size w w' := by
  have ⟨hp0, hp1⟩ := bounds_u16 hp
  have ⟨hz0, hz1⟩ := bounds_u8 hz
  clear hp hz
  obtain ⟨zb, hzb⟩ : ∃ zb : UInt8, z = (zb.toNat : Int) := ⟨UInt8.ofNat z.toNat, (u8_toNat_ofInt hz0 (by omega)).symm⟩
  subst hzb
  obtain ⟨A, c, B, d, rfl, h1⟩ := hx.opened
  have u1 := hx.ok
  clear hx
  have S := St.start w
  replace S := S.new' #[.int .i64 x.o, .int .i64 x.s, .int .i64 x.a, .bool x.ov, .slice A x.adj.length c, .slice B x.pre.length d] 25 (w.heap.size) _ (by first | rfl | simp) rfl
  replace h1 := h1.below (below_new' _ (.cells #[.int .i64 x.o, .int .i64 x.s, .int .i64 x.a, .bool x.ov, .slice A x.adj.length c, .slice B x.pre.length d] 25))
  go_enter Try.func6, Try.ntmps6
  go_wp2_with fail
  (with_reducible refine (awake_any _).mono ?_)
  rintro e w1 ⟨rfl, hb⟩
  replace S := S.call hb
  replace h1 := h1.below hb
  clear hb
  have F1 := few_any _ _ x h1
  obtain ⟨f1, hf1⟩ : ∃ f1, fewB x = f1 := ⟨_, rfl⟩
  rw [hf1] at F1
  replace F1 := Lib.hid F1
  replace hf1 := Lib.hid hf1
  have a0 := S.c 0 0 rfl rfl
  have a1 := S.c 0 1 rfl rfl
  have a2 := S.c 0 2 rfl rfl
  have a3 := S.c 0 3 rfl rfl
  have a4 := S.c 0 4 rfl rfl
  have a5 := S.c 0 5 rfl rfl
  go_wp2_with fail
  (with_reducible refine (F1.out).mono ?_)
  rintro e w2 ⟨rfl, hb⟩
  replace S := S.call hb
  replace h1 := h1.below hb
  clear hb
  clear a0 a1 a2 a3 a4 a5
  clear F1
  cases f1 with
  | false =>
    go_wp2_with fail
    go_ret
    exact ⟨rfl, S.b⟩
  | true =>
  have hbl := laEnc_len x
  have hfw := fewB_t hf1.out
  clear hf1
  have a0 := S.c 0 0 rfl rfl
  have a1 := S.c 0 1 rfl rfl
  have a2 := S.c 0 2 rfl rfl
  have a3 := S.c 0 3 rfl rfl
  have a4 := S.c 0 4 rfl rfl
  have a5 := S.c 0 5 rfl rfl
  by_cases hv : LaValid x
  rotate_left
  · have E := enc_f _ _ x h1 hv
    replace E := Lib.hid E
    clear hv u1 h1 hbl
    go_wp2_with fail
    (with_reducible refine (E.out).mono ?_)
    rintro e w3 ⟨A1, c1, rfl, hb⟩
    replace S := S.call hb
    clear hb
    go_wp2_with fail
    go_ret
    exact ⟨rfl, S.b⟩
  have E := enc_t _ _ x h1 hv
  unfold EncT at E
  have hcut := fun k hk => ldec_cut (x := x) ⟨hv, u1⟩ k hk
  obtain ⟨d1, d2⟩ := ldec_yes (bs := laEnc x) ⟨⟨hv, u1⟩, rfl⟩
  have hset := fun k hk b => @ldec_set x k hk b
  clear hv u1 d2
  generalize laEnc x = bs at *
  obtain ⟨n, hn⟩ : ∃ n, bs.length = n := ⟨_, rfl⟩
  rw [hn] at E
  replace E := Lib.hid E
  have hn17 : 17 ≤ n := by omega
  have hn2 : n ≤ 100000 := by omega
  clear hbl hfw
  replace hn := Lib.hid hn
  have b1 : 0 ≤ p % (n : Int) ∧ p % (n : Int) < (n : Int) := ⟨Int.emod_nonneg _ (by omega), Int.emod_lt_of_pos _ (by omega)⟩
  obtain ⟨k, ek⟩ : ∃ k : Nat, p % (n : Int) = k := ⟨_, (Int.toNat_of_nonneg b1.1).symm⟩
  rw [ek] at b1
  have hkl : k < bs.length := by rw [hn.out]; omega
  have hc1 := hcut k hkl
  have hc2 := hset k hkl zb
  have hcs : zb = bs[k] → ldecE (bs.set k zb) = 0 := fun h => by rw [h, List.set_getElem_self]; exact d1
  clear hcut hset d1
  have hsz := S.b.size
  go_wp2_with fail
  (with_reducible refine (E.out).mono ?_)
  rintro e w3 ⟨A1, c1, rfl, hown, hcc1, hm1, hb⟩
  replace S := S.call hb
  replace h1 := h1.below hb
  clear hb
  clear a0 a1 a2 a3 a4 a5
  clear E h1
  obtain ⟨g, cx, hv1, hg1, hg2, hown1⟩ := own_form hown (by omega)
  simp only [Value.slice.injEq, true_and] at hv1
  obtain ⟨rfl, rfl⟩ := hv1
  clear hown
  obtain ⟨_, _, e9, rd1, _, _⟩ := own_rd hown1
  simp only [Value.slice.injEq, true_and] at e9
  obtain ⟨rfl, rfl⟩ := e9
  have rdk := rd1.take k
  rw [← List.map_take] at rdk
  have hs := fun W => run_upto bytesT (some ⟨g, 0, none⟩) n c1 k (by omega) W (P := Try.prog)
  have D1 := dec_at w3 (some ⟨g, 0, none⟩) k c1 (bs.take k) _ _ rfl rfl rdk (by rw [List.length_take]; omega) (by omega) hm1 (by omega)
  generalize ldecE (bs.take k) = E1 at *
  generalize ldecV (bs.take k) = V1 at *
  replace D1 := Lib.hid D1
  clear rdk rd1
  go_wp2_with fail
  (with_reducible refine (D1.out).mono ?_)
  rintro e w4 ⟨A2, c2, B2, d2, rfl, hL2, hb⟩
  clear D1 hL2
  replace S := S.call hb
  replace hown1 := own_below hown1 hb
  clear hb
  replace S := S.new' #[.int .i64 V1.o, .int .i64 V1.s, .int .i64 V1.a, .bool V1.ov, .slice A2 V1.adj.length c2, .slice B2 V1.pre.length d2] 25 (w4.heap.size) _ (by first | rfl | simp) rfl
  replace hown1 := own_below hown1 (below_new' _ (.cells #[.int .i64 V1.o, .int .i64 V1.s, .int .i64 V1.a, .bool V1.ov, .slice A2 V1.adj.length c2, .slice B2 V1.pre.length d2] 25))
  have hcell := own_u8 hown1 hkl
  have hfz := hown1.frozenAt k
  obtain ⟨hown2, _⟩ := hown1.stored k (.int .u8 (zb.toNat : Int))
  rw [show ((bs.map u8v).set k (.int .u8 (zb.toNat : Int))) = (bs.set k zb).map u8v from by simp [List.map_set, u8v]] at hown2
  have hbb := S.b.setCell (p := ⟨g, k, none⟩) (Nat.le_trans hsz hg1) (.int .u8 (zb.toNat : Int))
  obtain ⟨_, _, e9, rd2, _, _⟩ := own_rd hown2
  simp only [Value.slice.injEq, true_and] at e9
  obtain ⟨rfl, rfl⟩ := e9
  have D2 := dec_at _ (some ⟨g, 0, none⟩) n c1 (bs.set k zb) _ _ rfl rfl rd2 (by rw [List.length_set, hn.out]) hcc1 hm1 hn2
  generalize ldecE (bs.set k zb) = E2 at *
  generalize ldecV (bs.set k zb) = V2 at *
  replace D2 := Lib.hid D2
  have hx0 : 0 ≤ (bs[k].toNat : Int) := by omega
  have hx1 : (bs[k].toNat : Int) ≤ 255 := by have := bs[k].toNat_lt; omega
  have hE1 : (E1 != 0) = true := by simpa using hc1
  have hres : ((bs[k].toNat : Int) = 0 ∧ (zb.toNat : Int) = 255) ∨ ((bs[k].toNat : Int) = 255 ∧ (zb.toNat : Int) = 0) ∨ ((bs[k].toNat : Int) = (zb.toNat : Int) ∧ E2 = 0) ∨ (¬ ((bs[k].toNat : Int) = 0 ∧ (zb.toNat : Int) = 255) ∧ ¬ ((bs[k].toNat : Int) = 255 ∧ (zb.toNat : Int) = 0) ∧ ¬ (bs[k].toNat : Int) = (zb.toNat : Int) ∧ E2 = 5) := by
    by_cases q1 : (bs[k].toNat : Int) = 0 ∧ (zb.toNat : Int) = 255
    · exact .inl q1
    · by_cases q2 : (bs[k].toNat : Int) = 255 ∧ (zb.toNat : Int) = 0
      · exact .inr (.inl q2)
      · by_cases q3 : (bs[k].toNat : Int) = (zb.toNat : Int)
        · exact .inr (.inr (.inl ⟨q3, hcs (UInt8.toNat_inj.1 (by omega))⟩))
        · exact .inr (.inr (.inr ⟨q1, q2, q3, hc2 (fun e => q3 (by rw [e])) (by omega) (by omega)⟩))
  clear hc1 hc2 hcs hown1 hown2 rd2 S
  go_wp2_with fail
  generalize World.setCell _ ⟨g, k, none⟩ _ = w6 at *
  (with_reducible refine (D2.out).mono ?_)
  rintro e w7 ⟨A3, c3, B3, d3, rfl, hL3, hb⟩
  clear D2 hL3 hcell hfz
  have hfin := hbb.trans (hb.mono hbb.size)
  generalize (bs[k].toNat : Int) = fr at *
  generalize (zb.toNat : Int) = y at *
  rcases hres with ⟨rfl, rfl⟩ | ⟨rfl, rfl⟩ | ⟨rfl, rfl⟩ | ⟨q1, q2, q3, rfl⟩
  · go_wp2_with fail
    go_ret
    exact ⟨rfl, hfin.trans ((below_new' _ _).mono hfin.size)⟩
  · go_wp2_with fail
    go_ret
    exact ⟨rfl, hfin.trans ((below_new' _ _).mono hfin.size)⟩
  · by_cases r1 : fr = 0
    · subst r1
      go_wp2_with fail
      go_ret
      exact ⟨rfl, hfin.trans ((below_new' _ _).mono hfin.size)⟩
    · by_cases r2 : fr = 255
      · subst r2
        go_wp2_with fail
        go_ret
        exact ⟨rfl, hfin.trans ((below_new' _ _).mono hfin.size)⟩
      · have s1 : (fr == 0) = false := by simpa using r1
        have s2 : (fr == 255) = false := by simpa using r2
        have s3 : (fr == fr) = true := by simp
        go_wp2_with fail
        go_ret
        exact ⟨rfl, hfin.trans ((below_new' _ _).mono hfin.size)⟩
  · have s3 : (fr == y) = false := by simpa using q3
    by_cases r1 : fr = 0
    · subst r1
      have s1 : (y == 255) = false := by simp only [beq_eq_false_iff_ne]; omega
      clear q1 q2 q3
      go_wp2_with fail
      go_ret
      exact ⟨rfl, hfin.trans ((below_new' _ _).mono hfin.size)⟩
    · have s1 : (fr == 0) = false := by simpa using r1
      by_cases r2 : fr = 255
      · subst r2
        have s2 : (y == 0) = false := by simp only [beq_eq_false_iff_ne]; omega
        clear q1 q2 q3 r1
        go_wp2_with fail
        go_ret
        exact ⟨rfl, hfin.trans ((below_new' _ _).mono hfin.size)⟩
      · have s2 : (fr == 255) = false := by simpa using r2
        clear q1 q2 q3
        go_wp2_with fail
        go_ret
        exact ⟨rfl, hfin.trans ((below_new' _ _).mono hfin.size)⟩

end Go.Proofs.Ytpcbgmnldpbamaa
