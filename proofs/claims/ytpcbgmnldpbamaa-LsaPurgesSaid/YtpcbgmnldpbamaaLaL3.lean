/-
  The walk of the statement LsaPurges.
-/
import Derived.Test.YtpcbgmnldpbamaaLaL1
namespace Go.Proofs.Ytpcbgmnldpbamaa
set_option linter.unusedVariables false
open Go.RowKit Go.Sort

set_option maxRecDepth 100000 in
set_option maxHeartbeats 12800000 in
theorem purges_law (w : World) (v : Value) (x : La) (hx : LaAt w v x) (u : Value) (y : La) (hy : LaAt w u y) :
    Calls Try.prog 7 #[v, u] w fun e w' => e = .returned (.bool true) ∧ Below w.heap.size w w' := by
  obtain ⟨A, c, B, d, rfl, h1⟩ := hx.opened
  obtain ⟨A', c', B', d', rfl, rA', _, hl1, hl2, _, _, _⟩ := id hy
  have h2 := hy
  clear hx hy
  unfold maxLen at hl2
  have S := ((((St.start w).read rA').new' #[.int .i64 x.o, .int .i64 x.s, .int .i64 x.a, .bool x.ov, .slice A x.adj.length c, .slice B x.pre.length d] 25 w.heap.size _ rfl rfl).new' #[.int .i64 y.o, .int .i64 y.s, .int .i64 y.a, .bool y.ov, .slice A' y.adj.length c', .slice B' y.pre.length d'] 25 (w.heap.size + 1) _ (by simp) rfl)
  have F1 := fun W hb => few_any W _ x (h1.below hb)
  have F2 := fun W hb => few_any W _ y (h2.below hb)
  have V1 := fun W hb => rvalid_at W _ x (h1.below hb)
  have V2 := fun W hb => rvalid_at W _ y (h2.below hb)
  have P1 := fun W hb hv => pur_t W _ x (h1.below hb) hv
  have N1 := fun W hb p hp => lnewer_any W p _ (purgeX x) ⟨x.o, y.s, y.a, y.ov, y.adj, y.pre⟩ hp ((h2.below hb).renum x.o y.s y.a y.ov)
  have hfin : vB x = true → vB y = true → (∀ z ∈ y.adj, z.1 ≠ x.o) → newI (purgeX x) ⟨x.o, y.s, y.a, y.ov, y.adj, y.pre⟩ = if y.s = x.s ∧ y.a = 3600 then 0 else if x.s < y.s then -1 else 1 :=
    fun a b hz => newI_purge (y := ⟨x.o, y.s, y.a, y.ov, y.adj, y.pre⟩) (vB_iff.1 a) (valid_org (vB_iff.1 b) x.o (vB_iff.1 a).1 hz) rfl
  have hvx : vB x = true → LaValid x := vB_iff.1
  have hbx : vB x = true → -1 ≤ x.s ∧ x.s ≤ 1073741824 := fun h => by have := (hvx h).2.1; omega
  obtain ⟨n, hn⟩ : ∃ n, y.adj.length = n := ⟨_, rfl⟩
  rw [hn] at hl1 S F2 V2 N1 ⊢
  clear h1 h2 rA'
  generalize fewB x = f1 at *
  generalize fewB y = f2 at *
  generalize vB x = v1 at *
  generalize vB y = v2 at *
  replace F1 := Lib.hid F1
  replace F2 := Lib.hid F2
  replace V1 := Lib.hid V1
  replace V2 := Lib.hid V2
  replace P1 := Lib.hid P1
  replace N1 := Lib.hid N1
  replace hfin := Lib.hid hfin
  replace hvx := Lib.hid hvx
  replace hbx := Lib.hid hbx
  replace hn := Lib.hid hn
  go_enter Try.func7, Try.ntmps7
  go_wp2_with fail
  (with_reducible refine (awake_any _).mono ?_)
  rintro e w1 ⟨rfl, hb⟩
  replace S := S.call hb
  clear hb
  have a0 := S.c 1 0 rfl rfl
  have a1 := S.c 1 1 rfl rfl
  have a2 := S.c 1 2 rfl rfl
  have a3 := S.c 1 3 rfl rfl
  have a4 := S.c 1 4 rfl rfl
  have a5 := S.c 1 5 rfl rfl
  go_wp2_with fail
  (with_reducible refine (F1.out _ S.b).mono ?_)
  rintro e w2 ⟨rfl, hb⟩
  replace S := S.call hb
  clear hb
  clear a0 a1 a2 a3 a4 a5
  cases f1 with
  | false =>
    go_wp2_with fail
    go_ret
    exact ⟨rfl, S.b⟩
  | true =>
  have a0 := S.c 0 0 rfl rfl
  have a1 := S.c 0 1 rfl rfl
  have a2 := S.c 0 2 rfl rfl
  have a3 := S.c 0 3 rfl rfl
  have a4 := S.c 0 4 rfl rfl
  have a5 := S.c 0 5 rfl rfl
  go_wp2_with fail
  (with_reducible refine (F2.out _ S.b).mono ?_)
  rintro e w3 ⟨rfl, hb⟩
  replace S := S.call hb
  clear hb
  clear a0 a1 a2 a3 a4 a5
  cases f2 with
  | false =>
    go_wp2_with fail
    go_ret
    exact ⟨rfl, S.b⟩
  | true =>
  have a0 := S.c 1 0 rfl rfl
  have a1 := S.c 1 1 rfl rfl
  have a2 := S.c 1 2 rfl rfl
  have a3 := S.c 1 3 rfl rfl
  have a4 := S.c 1 4 rfl rfl
  have a5 := S.c 1 5 rfl rfl
  go_wp2_with fail
  (with_reducible refine (V1.out _ S.b).mono ?_)
  rintro e w4 ⟨rfl, hb⟩
  replace S := S.call hb
  clear hb
  clear a0 a1 a2 a3 a4 a5
  cases v1 with
  | false =>
    go_wp2_with fail
    go_ret
    exact ⟨rfl, S.b⟩
  | true =>
  have a0 := S.c 0 0 rfl rfl
  have a1 := S.c 0 1 rfl rfl
  have a2 := S.c 0 2 rfl rfl
  have a3 := S.c 0 3 rfl rfl
  have a4 := S.c 0 4 rfl rfl
  have a5 := S.c 0 5 rfl rfl
  go_wp2_with fail
  (with_reducible refine (V2.out _ S.b).mono ?_)
  rintro e w5 ⟨rfl, hb⟩
  replace S := S.call hb
  clear hb
  clear a0 a1 a2 a3 a4 a5
  cases v2 with
  | false =>
    go_wp2_with fail
    go_ret
    exact ⟨rfl, S.b⟩
  | true =>
  have a0 := S.c 1 0 rfl rfl
  have a1 := S.c 1 1 rfl rfl
  have a2 := S.c 1 2 rfl rfl
  have a3 := S.c 1 3 rfl rfl
  have a4 := S.c 1 4 rfl rfl
  have a5 := S.c 1 5 rfl rfl
  have b0 := S.c 0 0 rfl rfl
  have b1 := S.c 0 1 rfl rfl
  have b2 := S.c 0 2 rfl rfl
  have b3 := S.c 0 3 rfl rfl
  have b4 := S.c 0 4 rfl rfl
  have b5 := S.c 0 5 rfl rfl
  have f0 := S.f 0 0 rfl rfl
  have S2 := S.set 0 0 (.int .i64 x.o) rfl (by simp) (by omega) (by simp) _ rfl
  go_upto_region 6 with fail
  clear a0 a1 a2 a3 a4 a5
  clear b0 b1 b2 b3 b4 b5
  clear f0 S F1 F2 V1 V2
  have S : St w (w5.setCell ⟨w.heap.size + 1, 0, none⟩ (.int .i64 x.o)) [(w.heap.size + 1, [.int .i64 x.o, .int .i64 y.s, .int .i64 y.a, .bool y.ov, .slice A' n c', .slice B' y.pre.length d']), (w.heap.size, [.int .i64 x.o, .int .i64 x.s, .int .i64 x.a, .bool x.ov, .slice A x.adj.length c, .slice B x.pre.length d])] [(A', adV y.adj)] := S2
  clear S2
  generalize w5.setCell ⟨w.heap.size + 1, 0, none⟩ (.int .i64 x.o) = w6 at *
  go_wp2_with fail
  go_loopw [5] (fun v5 wr => ∃ i : Nat, v5 = .int .i64 i ∧ i ≤ n ∧ Hid (∀ z ∈ y.adj.take i, z.1 ≠ x.o) ∧ St w wr [(w.heap.size + 1, [.int .i64 x.o, .int .i64 y.s, .int .i64 y.a, .bool y.ov, .slice A' n c', .slice B' y.pre.length d']), (w.heap.size, [.int .i64 x.o, .int .i64 x.s, .int .i64 x.a, .bool x.ov, .slice A x.adj.length c, .slice B x.pre.length d])] [(A', adV y.adj)]) (fun v5 _ => n - (intOf v5).toNat)
  case atStart => exact ⟨0, rfl, by omega, fun z hz => by simp at hz, S⟩
  case round =>
    clear S
    obtain ⟨i, rfl, hi, htk, S⟩ := hrel
    by_cases hin : i < n
    · have hil : i < y.adj.length := by rw [hn.out]; exact hin
      obtain ⟨b, off, rfl, hcells⟩ := rd_ad (S.r 0 rfl) (by omega)
      obtain ⟨x0, _, _⟩ := hcells i hil
      have hs1 := List.take_succ_eq_append_getElem hil
      have htk2 : y.adj[i].1 ≠ x.o → ∀ z ∈ y.adj.take (i + 1), z.1 ≠ x.o := fun h z hz => by
        rw [hs1, List.mem_append, List.mem_singleton] at hz
        rcases hz with hz | rfl
        · exact htk.out z hz
        · exact h
      generalize y.adj[i].1 = tz at *
      replace htk2 := Lib.hid htk2
      clear hs1 hcells htk
      have b0 := S.c 0 0 rfl rfl
      have b1 := S.c 0 1 rfl rfl
      have b2 := S.c 0 2 rfl rfl
      have b3 := S.c 0 3 rfl rfl
      have b4 := S.c 0 4 rfl rfl
      have b5 := S.c 0 5 rfl rfl
      by_cases he : tz = x.o
      · have he' : (tz == x.o) = true := by simpa using he
        clear he
        go_wp2_with fail
        go_quiet (fail)
        go_wp2_with fail
        go_ret
        exact ⟨rfl, below_drewN S.b nq⟩
      · have he' : (tz == x.o) = false := by simpa using he
        have htk3 := Lib.hid (htk2.out he)
        clear he htk2
        go_wp2_with fail
        go_quiet (fail)
        go_wp2_with fail
        go_round
        case rel => exact ⟨i + 1, by go_num, by omega, htk3, S.drewN nq⟩
        case measure => simp [intOf]; omega
    · obtain rfl : i = n := by omega
      have hz := hfin.out (by simp) (by simp) (fun z hz => htk.out z (by rw [List.take_of_length_le (by rw [hn.out]; exact Nat.le_refl _)]; exact hz))
      have hv := hvx.out (by simp)
      clear hfin hvx htk hbx
      generalize newI (purgeX x) ⟨x.o, y.s, y.a, y.ov, y.adj, y.pre⟩ = r at *
      have VP := fun W p hp => valid_at W p (purgeX x) hp
      rw [vB_t (purge_valid hv)] at VP
      replace VP := Lib.hid VP
      have P2 := P1.out _ S.b hv
      replace P2 := Lib.hid P2
      replace hz := Lib.hid hz
      clear P1 hv
      have a0 := S.c 1 0 rfl rfl
      have a1 := S.c 1 1 rfl rfl
      have a2 := S.c 1 2 rfl rfl
      have a3 := S.c 1 3 rfl rfl
      have a4 := S.c 1 4 rfl rfl
      have a5 := S.c 1 5 rfl rfl
      have b0 := S.c 0 0 rfl rfl
      have b1 := S.c 0 1 rfl rfl
      have b2 := S.c 0 2 rfl rfl
      have b3 := S.c 0 3 rfl rfl
      have b4 := S.c 0 4 rfl rfl
      have b5 := S.c 0 5 rfl rfl
      go_wp2_with fail
      (with_reducible refine (P2.out).mono ?_)
      rintro e w7 ⟨A7, c7, B7, d7, rfl, hL7, hb⟩
      clear a0 a1 a2 a3 a4 a5
      clear b0 b1 b2 b3 b4 b5
      replace S := S.call hb
      clear hb P2
      have h7 := hL7.out _ (Below.refl _ _)
      clear hL7
      replace S := S.new' #[.int .i64 x.o, .int .i64 x.s, .int .i64 3600, .bool false, .slice A7 0 c7, .slice B7 0 d7] 25 (w7.heap.size) _ (by first | rfl | simp) rfl
      replace h7 := h7.below (below_new' _ (.cells #[.int .i64 x.o, .int .i64 x.s, .int .i64 3600, .bool false, .slice A7 0 c7, .slice B7 0 d7] 25))
      have p0 := S.c 0 0 rfl rfl
      have p1 := S.c 0 1 rfl rfl
      have p2 := S.c 0 2 rfl rfl
      have p3 := S.c 0 3 rfl rfl
      have p4 := S.c 0 4 rfl rfl
      have p5 := S.c 0 5 rfl rfl
      go_wp2_with fail
      (with_reducible refine (VP.out _ _ h7).mono ?_)
      rintro e w8 ⟨rfl, hb⟩
      replace S := S.call hb
      replace h7 := h7.below hb
      clear hb
      clear VP
      clear p0 p1 p2 p3 p4 p5
      have p0 := S.c 0 0 rfl rfl
      have p1 := S.c 0 1 rfl rfl
      have p2 := S.c 0 2 rfl rfl
      have p3 := S.c 0 3 rfl rfl
      have p4 := S.c 0 4 rfl rfl
      have p5 := S.c 0 5 rfl rfl
      have b0 := S.c 1 0 rfl rfl
      have b1 := S.c 1 1 rfl rfl
      have b2 := S.c 1 2 rfl rfl
      have b3 := S.c 1 3 rfl rfl
      have b4 := S.c 1 4 rfl rfl
      have b5 := S.c 1 5 rfl rfl
      have a0 := S.c 2 0 rfl rfl
      have a1 := S.c 2 1 rfl rfl
      have a2 := S.c 2 2 rfl rfl
      have a3 := S.c 2 3 rfl rfl
      have a4 := S.c 2 4 rfl rfl
      have a5 := S.c 2 5 rfl rfl
      have N2 := N1.out _ S.b _ h7
      replace N2 := Lib.hid N2
      clear N1 h7
      by_cases q1 : x.s < y.s
      · obtain rfl : r = -1 := by rw [hz.out, if_neg (by omega), if_pos q1]
        have q2 : (y.s == x.s) = false := by simp only [beq_eq_false_iff_ne]; omega
        go_wp2_with fail
        (with_reducible refine (N2.out).mono ?_)
        rintro e w9 ⟨rfl, hb⟩
        replace S := S.call hb
        go_wp2_with fail
        go_ret
        exact ⟨rfl, S.b⟩
      · by_cases q2 : y.s = x.s
        · have q3 : (y.s == x.s) = true := by simpa using q2
          by_cases q4 : y.a = 3600
          · obtain rfl : r = 0 := by rw [hz.out, if_pos ⟨q2, q4⟩]
            have q5 : (y.a == 3600) = true := by simpa using q4
            clear q2 q4 hz
            go_wp2_with fail
            (with_reducible refine (N2.out).mono ?_)
            rintro e w9 ⟨rfl, hb⟩
            replace S := S.call hb
            go_wp2_with fail
            go_ret
            exact ⟨rfl, S.b⟩
          · obtain rfl : r = 1 := by rw [hz.out, if_neg (by simp [q4]), if_neg q1]
            have q5 : (y.a == 3600) = false := by simpa using q4
            clear q2 q4 hz
            go_wp2_with fail
            (with_reducible refine (N2.out).mono ?_)
            rintro e w9 ⟨rfl, hb⟩
            replace S := S.call hb
            go_wp2_with fail
            go_ret
            exact ⟨rfl, S.b⟩
        · obtain rfl : r = 1 := by rw [hz.out, if_neg (by simp [q2]), if_neg q1]
          have q3 : (y.s == x.s) = false := by simpa using q2
          clear q2 hz
          go_wp2_with fail
          (with_reducible refine (N2.out).mono ?_)
          rintro e w9 ⟨rfl, hb⟩
          replace S := S.call hb
          go_wp2_with fail
          go_ret
          exact ⟨rfl, S.b⟩

end Go.Proofs.Ytpcbgmnldpbamaa
