/-
  The texts OrgT2, OrgA, OrgN, OrgP, one after the other.
-/
import Derived.Test.YtfpoghhjpfkbaaaQ9
namespace Go.Proofs.Ytfpoghhjpfkbaaa
set_option linter.unusedVariables false
open Go.RowKit Go.Sort

set_option maxRecDepth 100000 in
set_option maxHeartbeats 12800000 in
theorem rtick_is (W0 w : World) (hB0 : Below W0.heap.size W0 w) (v : Value) (r : RO) (n : Int) (h : RoAt W0 v r) (hn0 : 0 ≤ n) (hn : n ≤ 100000) (his : r.is = true) (hf0 : 0 ≤ r.floor) (hf1 : r.floor ≤ 1073741824) (hs0 : 0 ≤ r.since) (hs1 : r.since ≤ 3599) :
    Calls Try.prog 28 #[v, .int .i64 n] w (RTPost W0 w (iterO r n.toNat) (iterB r n.toNat)) := by
  obtain ⟨A, c, B, d, rfl, hl⟩ := h
  obtain ⟨K, rfl⟩ : ∃ K : Nat, n = K := ⟨n.toNat, by omega⟩
  rw [Int.toNat_natCast]
  have hadj : ∀ k, (iterO r k).now.adj = r.now.adj ∧ (iterO r k).now.pre = r.now.pre ∧ (iterO r k).now.ov = r.now.ov := by
    intro k
    induction k with
    | zero => exact ⟨rfl, rfl, rfl⟩
    | succ k ih =>
      show (stepO (iterO r k)).now.adj = _ ∧ (stepO (iterO r k)).now.pre = _ ∧ (stepO (iterO r k)).now.ov = _
      unfold stepO
      split <;> exact ih
  have hlen := hl.ok
  have hfin : Hid (∀ k, RoAt W0 (roV (iterO r k) A c B d) (iterO r k)) := fun k => by
    obtain ⟨e1, e2, e3⟩ := hadj k
    refine ⟨A, c, B, d, rfl, ?_⟩
    have h9 := hl.renum (iterO r k).now.o (iterO r k).now.s (iterO r k).now.a r.now.ov
    rw [← e1, ← e2, ← e3] at h9
    exact h9
  have S := ((St.start w).new' #[.int .i64 r.node, .int .i64 r.floor, .bool r.is, .int .i64 r.now.o, .int .i64 r.now.s, .int .i64 r.now.a, .bool r.now.ov, .slice A r.now.adj.length c, .slice B r.now.pre.length d, .int .i64 r.since] 34 w.heap.size _ rfl rfl).new' #[.int .i64 0, .int .i64 0, .bool false, .int .i64 0, .int .i64 0, .int .i64 0, .bool false, .slice none 0 0, .slice none 0 0, .int .i64 0] 34 (w.heap.size + 1) _ (by simp) rfl
  rw [his] at S
  have hI : Hid (∀ k, (iterO r k).is = true ∧ (0 ≤ (iterO r k).floor ∧ (iterO r k).floor ≤ 1073741824) ∧ (0 ≤ (iterO r k).since ∧ (iterO r k).since ≤ 3599)) := fun k => ⟨iterO_is his k, by have := iterO_floor hf1 k; omega, iterO_since ⟨hs0, hs1⟩ k⟩
  have hva : roV r A c B d = .agg #[.int .i64 r.node, .int .i64 r.floor, .bool true, .int .i64 r.now.o, .int .i64 r.now.s, .int .i64 r.now.a, .bool r.now.ov, .slice A r.now.adj.length c, .slice B r.now.pre.length d, .int .i64 r.since] := by rw [show roV r A c B d = .agg #[.int .i64 r.node, .int .i64 r.floor, .bool r.is, .int .i64 r.now.o, .int .i64 r.now.s, .int .i64 r.now.a, .bool r.now.ov, .slice A r.now.adj.length c, .slice B r.now.pre.length d, .int .i64 r.since] from rfl, his]
  rw [hva]
  clear hva hl hadj hlen
  replace his := Lib.hid his
  go_enter Try.func28, Try.ntmps28
  go_wp2_with fail
  go_loopw [6, 7] (fun v6 v7 wr => ∃ k : Nat, v7 = .int .i64 k ∧ v6 = .bool (iterB r k) ∧ k ≤ K ∧ ∃ q : RO, Hid (iterO r k = q) ∧ St w wr [(w.heap.size + 1, [.int .i64 0, .int .i64 0, .bool false, .int .i64 0, .int .i64 0, .int .i64 0, .bool false, .slice none 0 0, .slice none 0 0, .int .i64 0]), (w.heap.size, [.int .i64 q.node, .int .i64 q.floor, .bool true, .int .i64 q.now.o, .int .i64 q.now.s, .int .i64 q.now.a, .bool q.now.ov, .slice A q.now.adj.length c, .slice B q.now.pre.length d, .int .i64 q.since])] []) (fun _ v7 _ => K - (intOf v7).toNat)
  case atStart => exact ⟨0, rfl, rfl, by omega, r, rfl, S⟩
  case round =>
    clear S
    obtain ⟨k, rfl, rfl, hk, q, hq, S⟩ := hrel
    obtain ⟨hqi, ⟨hq0, hq1⟩, hq2, hq3⟩ := hI.out k
    rw [hq.out] at hqi hq0 hq1 hq2 hq3
    replace hqi := Lib.hid hqi
    by_cases hkK : k < K
    rotate_left
    · obtain rfl : k = K := by omega
      have hrv : roV (iterO r k) A c B d = (.agg #[.int .i64 q.node, .int .i64 q.floor, .bool true, .int .i64 q.now.o, .int .i64 q.now.s, .int .i64 q.now.a, .bool q.now.ov, .slice A q.now.adj.length c, .slice B q.now.pre.length d, .int .i64 q.since]) := by
        rw [hq.out, show roV q A c B d = .agg #[.int .i64 q.node, .int .i64 q.floor, .bool q.is, .int .i64 q.now.o, .int .i64 q.now.s, .int .i64 q.now.a, .bool q.now.ov, .slice A q.now.adj.length c, .slice B q.now.pre.length d, .int .i64 q.since] from rfl, hqi.out]
      have hro : Hid (RoAt W0 (.agg #[.int .i64 q.node, .int .i64 q.floor, .bool true, .int .i64 q.now.o, .int .i64 q.now.s, .int .i64 q.now.a, .bool q.now.ov, .slice A q.now.adj.length c, .slice B q.now.pre.length d, .int .i64 q.since]) (iterO r k)) := by have := hfin.out k; rw [hrv] at this; exact this
      clear hq hfin hI hrv
      generalize iterB r k = rb at *
      have p0 := S.c 1 0 rfl rfl
      have p1 := S.c 1 1 rfl rfl
      have p2 := S.c 1 2 rfl rfl
      have p3 := S.c 1 3 rfl rfl
      have p4 := S.c 1 4 rfl rfl
      have p5 := S.c 1 5 rfl rfl
      have p6 := S.c 1 6 rfl rfl
      have p7 := S.c 1 7 rfl rfl
      have p8 := S.c 1 8 rfl rfl
      have p9 := S.c 1 9 rfl rfl
      have r0 := S.c 0 0 rfl rfl
      have r1 := S.c 0 1 rfl rfl
      have r2 := S.c 0 2 rfl rfl
      have r3 := S.c 0 3 rfl rfl
      have r4 := S.c 0 4 rfl rfl
      have r5 := S.c 0 5 rfl rfl
      have r6 := S.c 0 6 rfl rfl
      have r7 := S.c 0 7 rfl rfl
      have r8 := S.c 0 8 rfl rfl
      have r9 := S.c 0 9 rfl rfl
      have f0 := S.f 0 0 rfl rfl
      have f1 := S.f 0 1 rfl rfl
      have f2 := S.f 0 2 rfl rfl
      have f3 := S.f 0 3 rfl rfl
      have f4 := S.f 0 4 rfl rfl
      have f5 := S.f 0 5 rfl rfl
      have f6 := S.f 0 6 rfl rfl
      have f7 := S.f 0 7 rfl rfl
      have f8 := S.f 0 8 rfl rfl
      have f9 := S.f 0 9 rfl rfl
      have hb9 := (S.set10 (.int .i64 q.node) (.int .i64 q.floor) (.bool true) (.int .i64 q.now.o) (.int .i64 q.now.s) (.int .i64 q.now.a) (.bool q.now.ov) (.slice A q.now.adj.length c) (.slice B q.now.pre.length d) (.int .i64 q.since) (by omega) (by simp)).b
      go_wp2_with fail
      exact bodyPost_ret (v := .tuple #[.agg #[.int .i64 q.node, .int .i64 q.floor, .bool true, .int .i64 q.now.o, .int .i64 q.now.s, .int .i64 q.now.a, .bool q.now.ov, .slice A q.now.adj.length c, .slice B q.now.pre.length d, .int .i64 q.since], .bool rb]) (by simp [results, Try.results28, go_sem, r0, r1, r2, r3, r4, r5, r6, r7, r8, r9]) rfl ⟨_, rfl, hro.out, hb9⟩
    have hk5 : (k : Int) < 100000 := by omega
    have hk6 : (k : Int) < (K : Int) := by omega
    have hrb : Hid (∀ b, b = (iterB r k || stepB q) → (Value.bool b : Value) = .bool (iterB r (k + 1))) := fun b h => by rw [h, ← hq.out]; rfl
    have hnx : Hid (∀ q', stepO q = q' → iterO r (k + 1) = q') := fun q' h => by rw [← h, ← hq.out]; rfl
    clear hfin hI hq
    generalize iterB r k = rb at *
    have p0 := S.c 1 0 rfl rfl
    have p1 := S.c 1 1 rfl rfl
    have p2 := S.c 1 2 rfl rfl
    have p3 := S.c 1 3 rfl rfl
    have p4 := S.c 1 4 rfl rfl
    have p5 := S.c 1 5 rfl rfl
    have p6 := S.c 1 6 rfl rfl
    have p7 := S.c 1 7 rfl rfl
    have p8 := S.c 1 8 rfl rfl
    have p9 := S.c 1 9 rfl rfl
    have f0 := S.f 1 0 rfl rfl
    have f1 := S.f 1 1 rfl rfl
    have f2 := S.f 1 2 rfl rfl
    have f3 := S.f 1 3 rfl rfl
    have f4 := S.f 1 4 rfl rfl
    have f5 := S.f 1 5 rfl rfl
    have f6 := S.f 1 6 rfl rfl
    have f7 := S.f 1 7 rfl rfl
    have f8 := S.f 1 8 rfl rfl
    have f9 := S.f 1 9 rfl rfl
    by_cases hs : q.since < 3599
    · have hmin : min1 q.since = q.since + 1 := by unfold min1; rw [if_pos (by omega)]
      have S2 := S.set 1 9 (.int .i64 (q.since + 1)) rfl (by simp) (Nat.le_refl _) (by simp) _ rfl
      replace hmin := Lib.hid hmin
      go_upto_region 6 with fail
      clear p0 p1 p2 p3 p4 p5 p6 p7 p8 p9
      clear f0 f1 f2 f3 f4 f5 f6 f7 f8 f9
      clear S
      have S : St w (wr.setCell ⟨w.heap.size, 9, none⟩ (.int .i64 (q.since + 1))) [(w.heap.size + 1, [.int .i64 0, .int .i64 0, .bool false, .int .i64 0, .int .i64 0, .int .i64 0, .bool false, .slice none 0 0, .slice none 0 0, .int .i64 0]), (w.heap.size, [.int .i64 q.node, .int .i64 q.floor, .bool true, .int .i64 q.now.o, .int .i64 q.now.s, .int .i64 q.now.a, .bool q.now.ov, .slice A q.now.adj.length c, .slice B q.now.pre.length d, .int .i64 (q.since + 1)])] [] := S2
      clear S2
      generalize wr.setCell ⟨w.heap.size, 9, none⟩ (.int .i64 (q.since + 1)) = w2 at *
      have p0 := S.c 1 0 rfl rfl
      have p1 := S.c 1 1 rfl rfl
      have p2 := S.c 1 2 rfl rfl
      have p3 := S.c 1 3 rfl rfl
      have p4 := S.c 1 4 rfl rfl
      have p5 := S.c 1 5 rfl rfl
      have p6 := S.c 1 6 rfl rfl
      have p7 := S.c 1 7 rfl rfl
      have p8 := S.c 1 8 rfl rfl
      have p9 := S.c 1 9 rfl rfl
      have f0 := S.f 1 0 rfl rfl
      have f1 := S.f 1 1 rfl rfl
      have f2 := S.f 1 2 rfl rfl
      have f3 := S.f 1 3 rfl rfl
      have f4 := S.f 1 4 rfl rfl
      have f5 := S.f 1 5 rfl rfl
      have f6 := S.f 1 6 rfl rfl
      have f7 := S.f 1 7 rfl rfl
      have f8 := S.f 1 8 rfl rfl
      have f9 := S.f 1 9 rfl rfl
      by_cases h18 : 1800 ≤ q.since + 1
      rotate_left
      · have hst : stepO q = { q with since := q.since + 1 } := by unfold stepO; rw [hmin.out, if_neg (by omega)]
        have hsb : stepB q = false := by unfold stepB; rw [hmin.out, decide_eq_false (by omega)]; rfl
        clear hmin
        go_wp2_with fail
        go_round
        case rel => exact ⟨k + 1, by go_num, hrb.out _ (by rw [hsb, Bool.or_false]), by omega, _, hnx.out _ hst, S⟩
        case measure => simp [intOf]; omega
      by_cases hfl : 1073741824 ≤ q.floor
      · have hst : stepO q = { q with since := q.since + 1 } := by unfold stepO; rw [hmin.out, if_neg (by omega)]
        have hsb : stepB q = false := by unfold stepB; rw [decide_eq_false (by omega : ¬ q.floor < 1073741824)]; simp
        clear hmin
        go_wp2_with fail
        (with_reducible refine (remake_no _ _ _ _ _ _ _ _ _ _ _ _ _ _ _ _ _ _ _ _ _ _ _ _ _ hfl).mono ?_)
        rintro e w3 ⟨rfl, hb⟩
        clear p0 p1 p2 p3 p4 p5 p6 p7 p8 p9
        clear f0 f1 f2 f3 f4 f5 f6 f7 f8 f9
        replace S := S.call hb
        replace S := S.call (below_new' w3 (.cells #[.int .i64 q.node, .int .i64 q.floor, .bool true, .int .i64 q.now.o, .int .i64 q.now.s, .int .i64 q.now.a, .bool q.now.ov, .slice A q.now.adj.length c, .slice B q.now.pre.length d, .int .i64 (q.since + 1)] 34))
        clear hb
        go_wp2_with fail
        go_round
        case rel => exact ⟨k + 1, by go_num, hrb.out _ (by rw [hsb, Bool.or_false]), by omega, _, hnx.out _ hst, S⟩
        case measure => simp [intOf]; omega
      · have hst : stepO q = ⟨q.node, q.floor + 1, true, num q.node (q.floor + 1) 0 q.now, 0⟩ := by unfold stepO; rw [hmin.out, if_pos (by omega)]
        have hsb : stepB q = true := by unfold stepB; rw [hmin.out, decide_eq_true h18, decide_eq_true (by omega)]; rfl
        clear hmin
        go_wp2_with fail
        (with_reducible refine (remake_any _ _ _ _ _ _ _ _ _ _ _ _ _ _ _ _ _ _ _ _ _ _ _ _ _ hq0 (by omega)).mono ?_)
        rintro e w3 ⟨rfl, hb⟩
        clear p0 p1 p2 p3 p4 p5 p6 p7 p8 p9
        clear f0 f1 f2 f3 f4 f5 f6 f7 f8 f9
        replace S := S.call hb
        clear hb
        have hlt := S.lt 0 rfl (by simp)
        have S3 := S.new' #[.int .i64 q.node, .int .i64 (q.floor + 1), .bool true, .int .i64 q.node, .int .i64 (q.floor + 1), .int .i64 0, .bool q.now.ov, .slice A q.now.adj.length c, .slice B q.now.pre.length d, .int .i64 0] 34 w3.heap.size _ rfl rfl
        go_upto_region 8 with fail
        clear S
        generalize w3.alloc _ = w4 at *
        have n0 := S3.c 0 0 rfl rfl
        have n1 := S3.c 0 1 rfl rfl
        have n2 := S3.c 0 2 rfl rfl
        have n3 := S3.c 0 3 rfl rfl
        have n4 := S3.c 0 4 rfl rfl
        have n5 := S3.c 0 5 rfl rfl
        have n6 := S3.c 0 6 rfl rfl
        have n7 := S3.c 0 7 rfl rfl
        have n8 := S3.c 0 8 rfl rfl
        have n9 := S3.c 0 9 rfl rfl
        have p0 := S3.c 2 0 rfl rfl
        have p1 := S3.c 2 1 rfl rfl
        have p2 := S3.c 2 2 rfl rfl
        have p3 := S3.c 2 3 rfl rfl
        have p4 := S3.c 2 4 rfl rfl
        have p5 := S3.c 2 5 rfl rfl
        have p6 := S3.c 2 6 rfl rfl
        have p7 := S3.c 2 7 rfl rfl
        have p8 := S3.c 2 8 rfl rfl
        have p9 := S3.c 2 9 rfl rfl
        have f0 := S3.f 2 0 rfl rfl
        have f1 := S3.f 2 1 rfl rfl
        have f2 := S3.f 2 2 rfl rfl
        have f3 := S3.f 2 3 rfl rfl
        have f4 := S3.f 2 4 rfl rfl
        have f5 := S3.f 2 5 rfl rfl
        have f6 := S3.f 2 6 rfl rfl
        have f7 := S3.f 2 7 rfl rfl
        have f8 := S3.f 2 8 rfl rfl
        have f9 := S3.f 2 9 rfl rfl
        have S4 := ((((((((((S3.tail.set 1 0 (.int .i64 q.node) rfl (by simp) (Nat.le_refl _) (by simp) _ rfl).set 1 1 (.int .i64 (q.floor + 1)) rfl (by simp) (Nat.le_refl _) (by simp) _ rfl).set 1 2 (.bool true) rfl (by simp) (Nat.le_refl _) (by simp) _ rfl).set 1 3 (.int .i64 q.node) rfl (by simp) (Nat.le_refl _) (by simp) _ rfl).set 1 4 (.int .i64 (q.floor + 1)) rfl (by simp) (Nat.le_refl _) (by simp) _ rfl).set 1 5 (.int .i64 0) rfl (by simp) (Nat.le_refl _) (by simp) _ rfl).set 1 6 (.bool q.now.ov) rfl (by simp) (Nat.le_refl _) (by simp) _ rfl).set 1 7 (.slice A q.now.adj.length c) rfl (by simp) (Nat.le_refl _) (by simp) _ rfl).set 1 8 (.slice B q.now.pre.length d) rfl (by simp) (Nat.le_refl _) (by simp) _ rfl).set 1 9 (.int .i64 0) rfl (by simp) (Nat.le_refl _) (by simp) _ rfl)
        clear S3
        go_wp2_with fail
        go_round
        case rel => exact ⟨k + 1, by go_num, hrb.out _ (by rw [hsb, Bool.or_true]), by omega, _, hnx.out _ hst, S4⟩
        case measure => simp [intOf]; omega
    · have hs9 : q.since = 3599 := by omega
      have hmin : min1 q.since = 3599 := by unfold min1; rw [if_neg (by omega)]
      have S2 := S.set 1 9 (.int .i64 3599) rfl (by simp) (Nat.le_refl _) (by simp) _ rfl
      replace hmin := Lib.hid hmin
      go_upto_region 6 with fail
      clear p0 p1 p2 p3 p4 p5 p6 p7 p8 p9
      clear f0 f1 f2 f3 f4 f5 f6 f7 f8 f9
      clear S
      have S : St w (wr.setCell ⟨w.heap.size, 9, none⟩ (.int .i64 (3599))) [(w.heap.size + 1, [.int .i64 0, .int .i64 0, .bool false, .int .i64 0, .int .i64 0, .int .i64 0, .bool false, .slice none 0 0, .slice none 0 0, .int .i64 0]), (w.heap.size, [.int .i64 q.node, .int .i64 q.floor, .bool true, .int .i64 q.now.o, .int .i64 q.now.s, .int .i64 q.now.a, .bool q.now.ov, .slice A q.now.adj.length c, .slice B q.now.pre.length d, .int .i64 3599])] [] := S2
      clear S2
      generalize wr.setCell ⟨w.heap.size, 9, none⟩ (.int .i64 (3599)) = w2 at *
      have p0 := S.c 1 0 rfl rfl
      have p1 := S.c 1 1 rfl rfl
      have p2 := S.c 1 2 rfl rfl
      have p3 := S.c 1 3 rfl rfl
      have p4 := S.c 1 4 rfl rfl
      have p5 := S.c 1 5 rfl rfl
      have p6 := S.c 1 6 rfl rfl
      have p7 := S.c 1 7 rfl rfl
      have p8 := S.c 1 8 rfl rfl
      have p9 := S.c 1 9 rfl rfl
      have f0 := S.f 1 0 rfl rfl
      have f1 := S.f 1 1 rfl rfl
      have f2 := S.f 1 2 rfl rfl
      have f3 := S.f 1 3 rfl rfl
      have f4 := S.f 1 4 rfl rfl
      have f5 := S.f 1 5 rfl rfl
      have f6 := S.f 1 6 rfl rfl
      have f7 := S.f 1 7 rfl rfl
      have f8 := S.f 1 8 rfl rfl
      have f9 := S.f 1 9 rfl rfl
      have h18 : True := trivial
      by_cases hfl : 1073741824 ≤ q.floor
      · have hst : stepO q = { q with since := 3599 } := by unfold stepO; rw [hmin.out, if_neg (by omega)]
        have hsb : stepB q = false := by unfold stepB; rw [decide_eq_false (by omega : ¬ q.floor < 1073741824)]; simp
        clear hmin
        go_wp2_with fail
        (with_reducible refine (remake_no _ _ _ _ _ _ _ _ _ _ _ _ _ _ _ _ _ _ _ _ _ _ _ _ _ hfl).mono ?_)
        rintro e w3 ⟨rfl, hb⟩
        clear p0 p1 p2 p3 p4 p5 p6 p7 p8 p9
        clear f0 f1 f2 f3 f4 f5 f6 f7 f8 f9
        replace S := S.call hb
        replace S := S.call (below_new' w3 (.cells #[.int .i64 q.node, .int .i64 q.floor, .bool true, .int .i64 q.now.o, .int .i64 q.now.s, .int .i64 q.now.a, .bool q.now.ov, .slice A q.now.adj.length c, .slice B q.now.pre.length d, .int .i64 3599] 34))
        clear hb
        go_wp2_with fail
        go_round
        case rel => exact ⟨k + 1, by go_num, hrb.out _ (by rw [hsb, Bool.or_false]), by omega, _, hnx.out _ hst, S⟩
        case measure => simp [intOf]; omega
      · have hst : stepO q = ⟨q.node, q.floor + 1, true, num q.node (q.floor + 1) 0 q.now, 0⟩ := by unfold stepO; rw [hmin.out, if_pos (by omega)]
        have hsb : stepB q = true := by unfold stepB; rw [hmin.out, decide_eq_true (by omega : q.floor < 1073741824)]; rfl
        clear hmin
        go_wp2_with fail
        (with_reducible refine (remake_any _ _ _ _ _ _ _ _ _ _ _ _ _ _ _ _ _ _ _ _ _ _ _ _ _ hq0 (by omega)).mono ?_)
        rintro e w3 ⟨rfl, hb⟩
        clear p0 p1 p2 p3 p4 p5 p6 p7 p8 p9
        clear f0 f1 f2 f3 f4 f5 f6 f7 f8 f9
        replace S := S.call hb
        clear hb
        have hlt := S.lt 0 rfl (by simp)
        have S3 := S.new' #[.int .i64 q.node, .int .i64 (q.floor + 1), .bool true, .int .i64 q.node, .int .i64 (q.floor + 1), .int .i64 0, .bool q.now.ov, .slice A q.now.adj.length c, .slice B q.now.pre.length d, .int .i64 0] 34 w3.heap.size _ rfl rfl
        go_upto_region 8 with fail
        clear S
        generalize w3.alloc _ = w4 at *
        have n0 := S3.c 0 0 rfl rfl
        have n1 := S3.c 0 1 rfl rfl
        have n2 := S3.c 0 2 rfl rfl
        have n3 := S3.c 0 3 rfl rfl
        have n4 := S3.c 0 4 rfl rfl
        have n5 := S3.c 0 5 rfl rfl
        have n6 := S3.c 0 6 rfl rfl
        have n7 := S3.c 0 7 rfl rfl
        have n8 := S3.c 0 8 rfl rfl
        have n9 := S3.c 0 9 rfl rfl
        have p0 := S3.c 2 0 rfl rfl
        have p1 := S3.c 2 1 rfl rfl
        have p2 := S3.c 2 2 rfl rfl
        have p3 := S3.c 2 3 rfl rfl
        have p4 := S3.c 2 4 rfl rfl
        have p5 := S3.c 2 5 rfl rfl
        have p6 := S3.c 2 6 rfl rfl
        have p7 := S3.c 2 7 rfl rfl
        have p8 := S3.c 2 8 rfl rfl
        have p9 := S3.c 2 9 rfl rfl
        have f0 := S3.f 2 0 rfl rfl
        have f1 := S3.f 2 1 rfl rfl
        have f2 := S3.f 2 2 rfl rfl
        have f3 := S3.f 2 3 rfl rfl
        have f4 := S3.f 2 4 rfl rfl
        have f5 := S3.f 2 5 rfl rfl
        have f6 := S3.f 2 6 rfl rfl
        have f7 := S3.f 2 7 rfl rfl
        have f8 := S3.f 2 8 rfl rfl
        have f9 := S3.f 2 9 rfl rfl
        have S4 := ((((((((((S3.tail.set 1 0 (.int .i64 q.node) rfl (by simp) (Nat.le_refl _) (by simp) _ rfl).set 1 1 (.int .i64 (q.floor + 1)) rfl (by simp) (Nat.le_refl _) (by simp) _ rfl).set 1 2 (.bool true) rfl (by simp) (Nat.le_refl _) (by simp) _ rfl).set 1 3 (.int .i64 q.node) rfl (by simp) (Nat.le_refl _) (by simp) _ rfl).set 1 4 (.int .i64 (q.floor + 1)) rfl (by simp) (Nat.le_refl _) (by simp) _ rfl).set 1 5 (.int .i64 0) rfl (by simp) (Nat.le_refl _) (by simp) _ rfl).set 1 6 (.bool q.now.ov) rfl (by simp) (Nat.le_refl _) (by simp) _ rfl).set 1 7 (.slice A q.now.adj.length c) rfl (by simp) (Nat.le_refl _) (by simp) _ rfl).set 1 8 (.slice B q.now.pre.length d) rfl (by simp) (Nat.le_refl _) (by simp) _ rfl).set 1 9 (.int .i64 0) rfl (by simp) (Nat.le_refl _) (by simp) _ rfl)
        clear S3
        go_wp2_with fail
        go_round
        case rel => exact ⟨k + 1, by go_num, hrb.out _ (by rw [hsb, Bool.or_true]), by omega, _, hnx.out _ hst, S4⟩
        case measure => simp [intOf]; omega

set_option maxRecDepth 100000 in
set_option maxHeartbeats 6400000 in
theorem rtick_not (W0 w : World) (hB0 : Below W0.heap.size W0 w) (v : Value) (r : RO) (n : Int) (h : RoAt W0 v r) (hn : n ≤ 100000) (his : r.is = false ∨ n ≤ 0) :
    Calls Try.prog 28 #[v, .int .i64 n] w (RTPost W0 w r false) := by
  obtain ⟨A, c, B, d, rfl, hl⟩ := h
  obtain ⟨node, floor, is, now, since⟩ := r
  simp only at hl his ⊢
  have S := ((St.start w).new' #[.int .i64 node, .int .i64 floor, .bool is, .int .i64 now.o, .int .i64 now.s, .int .i64 now.a, .bool now.ov, .slice A now.adj.length c, .slice B now.pre.length d, .int .i64 since] 34 w.heap.size _ rfl rfl).new' #[.int .i64 0, .int .i64 0, .bool false, .int .i64 0, .int .i64 0, .int .i64 0, .bool false, .slice none 0 0, .slice none 0 0, .int .i64 0] 34 (w.heap.size + 1) _ (by simp) rfl
  have hfin : Hid (RoAt W0 (roV ⟨node, floor, is, now, since⟩ A c B d) ⟨node, floor, is, now, since⟩) := ⟨A, c, B, d, rfl, hl⟩
  clear hl
  replace his := Lib.hid his
  go_enter Try.func28, Try.ntmps28
  go_wp2_with fail
  go_loopw [6, 7] (fun v6 v7 wr => v7 = .int .i64 0 ∧ v6 = .bool false ∧ St w wr [(w.heap.size + 1, [.int .i64 0, .int .i64 0, .bool false, .int .i64 0, .int .i64 0, .int .i64 0, .bool false, .slice none 0 0, .slice none 0 0, .int .i64 0]), (w.heap.size, [.int .i64 node, .int .i64 floor, .bool is, .int .i64 now.o, .int .i64 now.s, .int .i64 now.a, .bool now.ov, .slice A now.adj.length c, .slice B now.pre.length d, .int .i64 since])] []) (fun _ _ _ => 0)
  case atStart => exact ⟨rfl, rfl, S⟩
  case round =>
    clear S
    obtain ⟨rfl, rfl, S⟩ := hrel
    have p0 := S.c 1 0 rfl rfl
    have p1 := S.c 1 1 rfl rfl
    have p2 := S.c 1 2 rfl rfl
    have p3 := S.c 1 3 rfl rfl
    have p4 := S.c 1 4 rfl rfl
    have p5 := S.c 1 5 rfl rfl
    have p6 := S.c 1 6 rfl rfl
    have p7 := S.c 1 7 rfl rfl
    have p8 := S.c 1 8 rfl rfl
    have p9 := S.c 1 9 rfl rfl
    have r0 := S.c 0 0 rfl rfl
    have r1 := S.c 0 1 rfl rfl
    have r2 := S.c 0 2 rfl rfl
    have r3 := S.c 0 3 rfl rfl
    have r4 := S.c 0 4 rfl rfl
    have r5 := S.c 0 5 rfl rfl
    have r6 := S.c 0 6 rfl rfl
    have r7 := S.c 0 7 rfl rfl
    have r8 := S.c 0 8 rfl rfl
    have r9 := S.c 0 9 rfl rfl
    have f0 := S.f 0 0 rfl rfl
    have f1 := S.f 0 1 rfl rfl
    have f2 := S.f 0 2 rfl rfl
    have f3 := S.f 0 3 rfl rfl
    have f4 := S.f 0 4 rfl rfl
    have f5 := S.f 0 5 rfl rfl
    have f6 := S.f 0 6 rfl rfl
    have f7 := S.f 0 7 rfl rfl
    have f8 := S.f 0 8 rfl rfl
    have f9 := S.f 0 9 rfl rfl
    have hb9 := (S.set10 (.int .i64 node) (.int .i64 floor) (.bool is) (.int .i64 now.o) (.int .i64 now.s) (.int .i64 now.a) (.bool now.ov) (.slice A now.adj.length c) (.slice B now.pre.length d) (.int .i64 since) (by omega) (by simp)).b
    have hcase : Hid (n ≤ 0 ∨ 0 < n ∧ is = false) := by
      show _ ∨ _
      rcases his.out with h | h
      · by_cases h0 : n ≤ 0
        · exact .inl h0
        · exact .inr ⟨by omega, h⟩
      · exact .inl h
    rcases hcase.out with h0 | ⟨h0, rfl⟩
    · have h1 : ¬ (0 : Int) < n := by omega
      clear hcase his
      go_wp2_with fail
      exact bodyPost_ret (v := .tuple #[roV ⟨node, floor, is, now, since⟩ A c B d, .bool false]) (by simp [results, Try.results28, go_sem, r0, r1, r2, r3, r4, r5, r6, r7, r8, r9]) rfl ⟨_, rfl, hfin.out, hb9⟩
    · clear hcase his
      go_wp2_with fail
      exact bodyPost_ret (v := .tuple #[roV ⟨node, floor, false, now, since⟩ A c B d, .bool false]) (by simp [results, Try.results28, go_sem, r0, r1, r2, r3, r4, r5, r6, r7, r8, r9]) rfl ⟨_, rfl, hfin.out, hb9⟩

theorem rtick_any (W0 w : World) (hB0 : Below W0.heap.size W0 w) (v : Value) (r : RO) (n : Int) (h : RoAt W0 v r) (hn : n ≤ 100000) (hf0 : 0 ≤ r.floor) (hf1 : r.floor ≤ 1073741824) (hs0 : 0 ≤ r.since) (hs1 : r.since ≤ 3599) :
    Calls Try.prog 28 #[v, .int .i64 n] w (RTPost W0 w (rtickR r n) (rtickB r n)) := by
  unfold rtickR rtickB
  rcases h1 : r.is with _ | _
  · rw [if_neg (by simp), if_neg (by simp)]
    exact rtick_not W0 w hB0 v r n h hn (.inl h1)
  · rw [if_pos rfl, if_pos rfl]
    by_cases h0 : 0 ≤ n
    · exact rtick_is W0 w hB0 v r n h h0 hn h1 hf0 hf1 hs0 hs1
    · rw [show n.toNat = 0 by omega]
      exact rtick_not W0 w hB0 v r n h hn (.inr (by omega))
/-- The two Ticks agree. -/
theorem tick_rel (x : La) (mk : Bool) (r : RO) (n : Int) (hr : Rel x mk r) (hi : Inv x mk) : Rel (tickX x mk n) mk (rtickR r n) ∧ rtickB r n = tickB x mk n := by
  have h3 := hr.2.2.1
  cases mk with
  | false =>
    have e1 : tickX x false n = x := by unfold tickX; rw [if_neg (by simp)]
    have e2 : tickB x false n = false := rfl
    unfold rtickR rtickB
    rw [e1, e2, h3, if_neg (by simp), if_neg (by simp)]
    exact ⟨hr, rfl⟩
  | true =>
    unfold rtickR rtickB
    rw [h3, if_pos rfl, if_pos rfl]
    by_cases h0 : 0 ≤ n
    · have := tick_iter x hi r hr n.toNat
      rw [Int.toNat_of_nonneg h0] at this
      exact this
    · rw [show n.toNat = 0 by omega]
      have e1 : tickX x true n = x := by unfold tickX; rw [if_neg (by omega)]
      have e2 : tickB x true n = false := by unfold tickB; rw [decide_eq_false (by omega)]; rfl
      rw [e1, e2]
      exact ⟨hr, rfl⟩

end Go.Proofs.Ytfpoghhjpfkbaaa

namespace Go.Proofs.Ytfpoghhjpfkbaaa
set_option linter.unusedVariables false
open Go.RowKit Go.Sort

theorem below_via {B : Nat} {w0 w w' : World} {g : Nat} (h : Below B w0 w) (hg : w.grownBy w' (some g)) (hB : B ≤ g) (hs : B ≤ w.heap.size) : Below B w0 w' := h.grown hg hs (fun k hk => by injection hk with hk; omega)
theorem equB_refl' (x : La) : equB x x = true := by simp [equB, sameB, conB]
/-- An advertisement without adjacencies and prefixes. -/
def bare (o s a : Int) (ov : Bool) : La := ⟨o, s, a, ov, [], []⟩
theorem bare_at (w : World) (o s a : Int) (ov : Bool) : LaAt w (laV o s a ov none 0 0 none 0 0) (bare o s a ov) := ⟨none, 0, none, 0, rfl, Rd.nil _ _, Rd.nil _ _, by simp [bare], by simp [maxLen], by simp [bare], by simp [maxLen], by simp [bare]⟩
theorem bare_co (w : World) (ov : Bool) (o s a : Int) : CoAt w (coV ov none 0 0 none 0 0) (bare o s a ov) := ⟨none, 0, none, 0, rfl, Rd.nil _ _, Rd.nil _ _, by simp [bare], by simp [maxLen], by simp [bare], by simp [maxLen], by simp [bare]⟩
theorem bare_valid (o s a : Int) (ov : Bool) (h0 : 0 ≤ o) (h1 : o ≤ 63) (h2 : 1 ≤ s) (h3 : s ≤ 1073741824) (h4 : 0 ≤ a) (h5 : a < 3600) : LaValid (bare o s a ov) := by
  refine ⟨⟨h0, h1⟩, ⟨h2, h3⟩, ⟨h4, by simp only [bare]; omega⟩, by simp [bare], by simp [bare], fun h => by simp only [bare] at h; omega, fun k x hk => by simp [bare] at hk, fun k x hk => by simp [bare] at hk⟩
theorem newI_s {x y : La} (hx : LaValid x) (hy : LaValid y) (h : x.s ≠ y.s) : newI x y = cmpI x.s y.s := by
  unfold newI
  rw [vB_t hx, vB_t hy, if_pos ⟨rfl, rfl⟩, if_neg h]

theorem aw_set1 : setP (bare 2 0 0 false) false (bare 2 0 0 false) = ⟨bare 2 1 0 false, true, true, 0⟩ := by
  unfold setP
  rw [show num (bare 2 0 0 false).o 1 0 (bare 2 0 0 false) = bare 2 1 0 false from rfl, vB_t (bare_valid 2 1 0 false (by omega) (by omega) (by omega) (by omega) (by omega) (by omega)), if_pos rfl, if_neg (by simp), if_neg (by simp [bare])]
  rfl
theorem aw_set2 : setP (bare 2 1 0 false) true (bare 2 0 0 false) = ⟨bare 2 1 0 false, true, false, 0⟩ := by
  unfold setP
  rw [show num (bare 2 1 0 false).o 1 0 (bare 2 0 0 false) = bare 2 1 0 false from rfl, vB_t (bare_valid 2 1 0 false (by omega) (by omega) (by omega) (by omega) (by omega) (by omega)), if_pos rfl, if_pos ⟨rfl, by simp [conB, bare]⟩]
theorem aw_hear1 : hearP (bare 2 1 0 false) true (bare 2 9 0 false) = ⟨bare 2 10 0 false, true, true, 0⟩ := by
  unfold hearP
  have h9 := bare_valid 2 9 0 false (by omega) (by omega) (by omega) (by omega) (by omega) (by omega)
  have h1 := bare_valid 2 1 0 false (by omega) (by omega) (by omega) (by omega) (by omega) (by omega)
  rw [vB_t h9, if_pos ⟨rfl, rfl⟩, if_pos rfl, newI_s h9 h1 (by simp [bare]), if_neg (by simp [bare, cmpI]), if_neg (by simp [bare])]
  rfl
theorem aw_hear2 : hearP (bare 2 10 0 false) true (bare 2 9 0 false) = ⟨bare 2 10 0 false, true, false, 0⟩ := by
  unfold hearP
  have h9 := bare_valid 2 9 0 false (by omega) (by omega) (by omega) (by omega) (by omega) (by omega)
  have h1 := bare_valid 2 10 0 false (by omega) (by omega) (by omega) (by omega) (by omega) (by omega)
  rw [vB_t h9, if_pos ⟨rfl, rfl⟩, if_pos rfl, newI_s h9 h1 (by simp [bare]), if_pos (by simp [bare, cmpI])]
theorem aw_tick : tickX (bare 2 10 0 false) true 1800 = bare 2 11 0 false ∧ tickB (bare 2 10 0 false) true 1800 = true := by
  constructor
  · simp [tickX, bare, renews, times, capA]
  · simp [tickB, bare, renews]

set_option maxRecDepth 100000 in
set_option maxHeartbeats 6400000 in
theorem awake_any (w : World) : Calls Try.prog 8 #[] w fun e w' => e = .returned (.bool true) ∧ Below w.heap.size w w' := by
  have N := onew_ok w 2 (by omega) (by omega)
  unfold OrNew at N
  go_enter Try.func8, Try.ntmps8
  go_wp2_with fail
  (with_reducible refine (N).mono ?_)
  rintro e w1 ⟨rfl, O, B⟩
  clear N
  have S1 := oset_any w1 w.heap.size _ (bare 2 0 0 false) (bare 2 0 0 false) false O (bare_co w1 false 2 0 0) (by simp [bare]) (by simp [bare]) (by simp [bare]) (by simp [bare])
  rw [aw_set1] at S1
  replace S1 := Lib.hid S1
  clear O
  go_wp2_with fail
  (with_reducible refine (S1.out).mono ?_)
  rintro e w2 ⟨rfl, O, hg⟩
  clear S1
  replace B := below_via B hg (Nat.le_refl _) B.size
  have S1 := oset_any w2 w.heap.size _ (bare 2 1 0 false) (bare 2 0 0 false) true O (bare_co w2 false 2 0 0) (by simp [bare]) (by simp [bare]) (by simp [bare]) (by simp [bare])
  rw [aw_set2] at S1
  replace S1 := Lib.hid S1
  clear O hg
  go_wp2_with fail
  (with_reducible refine (S1.out).mono ?_)
  rintro e w3 ⟨rfl, O, hg⟩
  clear S1
  replace B := below_via B hg (Nat.le_refl _) B.size
  have S1 := ohear_any w3 w.heap.size _ (bare 2 1 0 false) (bare 2 9 0 false) true O (bare_at w3 2 9 0 false) (by simp [bare]) (by simp [bare]) (by simp [bare]) (by simp [bare])
  rw [aw_hear1] at S1
  replace S1 := Lib.hid S1
  clear O hg
  go_wp2_with fail
  (with_reducible refine (S1.out).mono ?_)
  rintro e w4 ⟨rfl, O, hg⟩
  clear S1
  replace B := below_via B hg (Nat.le_refl _) B.size
  have S1 := ohear_any w4 w.heap.size _ (bare 2 10 0 false) (bare 2 9 0 false) true O (bare_at w4 2 9 0 false) (by simp [bare]) (by simp [bare]) (by simp [bare]) (by simp [bare])
  rw [aw_hear2] at S1
  replace S1 := Lib.hid S1
  clear O hg
  go_wp2_with fail
  (with_reducible refine (S1.out).mono ?_)
  rintro e w5 ⟨rfl, O, hg⟩
  clear S1
  replace B := below_via B hg (Nat.le_refl _) B.size
  have S1 := otick_any w5 w.heap.size (bare 2 10 0 false) true 1800 O (by omega) (by simp [bare]) (by simp [bare]) (by simp [bare]) (by simp [bare])
  rw [aw_tick.1, aw_tick.2] at S1
  replace S1 := Lib.hid S1
  clear O hg
  go_wp2_with fail
  (with_reducible refine (S1.out).mono ?_)
  rintro e w6 ⟨rfl, O, hg⟩
  clear S1
  replace B := below_via B hg (Nat.le_refl _) B.size
  have S1 := current_any w6 w.heap.size (bare 2 11 0 false) true O (by simp [bare]) (by simp [bare])
  rw [show CurPost w6 (bare 2 11 0 false) true = fun e w' => ∃ v, e = .returned (.tuple #[v, .bool true]) ∧ LaOwn w' w6.heap.size v (bare 2 11 0 false) ∧ Below w6.heap.size w6 w' from rfl] at S1
  replace S1 := Lib.hid S1
  clear hg
  go_wp2_with fail
  (with_reducible refine (S1.out).mono ?_)
  rintro e w7 ⟨v7, rfl, hown, hb⟩
  clear S1
  obtain ⟨A7, c7, B7, d7, hv7, hL7⟩ := hown.open
  have hv8 : v7 = laV 2 11 0 false A7 0 c7 B7 0 d7 := hv7
  clear hv7
  subst hv8
  have h7 : LaAt _ (laV 2 11 0 false A7 0 c7 B7 0 d7) (bare 2 11 0 false) := hL7.out _ (below_new' _ (.cells #[.int .i64 2, .int .i64 11, .int .i64 0, .bool false, .slice A7 0 c7, .slice B7 0 d7] 32))
  clear hL7 hown
  have S := ((St.start w6).call hb).new' #[.int .i64 2, .int .i64 11, .int .i64 0, .bool false, .slice A7 0 c7, .slice B7 0 d7] 32 w7.heap.size _ rfl rfl
  replace O := O.below S.b
  replace B := B.trans (S.b.mono B.size)
  have q0 := S.c 0 0 rfl rfl
  have q1 := S.c 0 1 rfl rfl
  have q2 := S.c 0 2 rfl rfl
  have q3 := S.c 0 3 rfl rfl
  have q4 := S.c 0 4 rfl rfl
  have q5 := S.c 0 5 rfl rfl
  have EQ := equal_any _ _ _ (bare 2 11 0 false) (bare 2 11 0 false) h7 (bare_at _ 2 11 0 false)
  rw [equB_refl'] at EQ
  replace EQ := Lib.hid EQ
  clear h7 S hb
  replace O := Lib.hid O
  go_wp2_with fail
  (with_reducible refine (EQ.out).mono ?_)
  rintro e w8 ⟨rfl, hb⟩
  have F := floor_any w8 w.heap.size (bare 2 11 0 false) true (O.out.below hb)
  replace F := Lib.hid F
  replace B := B.trans (hb.mono B.size)
  clear hb EQ O
  go_wp2_with fail
  (with_reducible refine (F.out).mono ?_)
  rintro e w9 ⟨rfl, rfl⟩
  go_wp2_with fail
  go_ret
  exact ⟨rfl, B⟩

end Go.Proofs.Ytfpoghhjpfkbaaa

namespace Go.Proofs.Ytfpoghhjpfkbaaa
set_option linter.unusedVariables false
open Go.RowKit Go.Sort

set_option maxRecDepth 100000 in
set_option maxHeartbeats 1600000 in
theorem lawco_any (w : World) (o s a : Int) (ov : Bool) (A : Option Addr) (n c : Nat) (B : Option Addr) (m d : Nat) :
    Calls Try.prog 17 #[laV o s a ov A n c B m d] w fun e w' => e = .returned (coV ov A n c B m d) ∧ Below w.heap.size w w' := by
  have S := ((St.start w).new' #[.int .i64 o, .int .i64 s, .int .i64 a, .bool ov, .slice A n c, .slice B m d] 32 w.heap.size _ rfl rfl).new' #[.bool ov, .slice A n c, .slice B m d] 49 (w.heap.size + 1) _ (by simp) rfl
  have r0 := S.c 0 0 rfl rfl
  have r1 := S.c 0 1 rfl rfl
  have r2 := S.c 0 2 rfl rfl
  have hb := S.b
  go_enter Try.func17, Try.ntmps17
  go_wp2_with fail
  exact bodyPost_ret (v := coV ov A n c B m d) (by simp [results, Try.results17, go_sem, r0, r1, r2]) rfl ⟨rfl, hb⟩

set_option maxRecDepth 100000 in
set_option maxHeartbeats 3200000 in
theorem nil_law (w : World) (v : Value) (x : La) (hx : LaAt w v x) (n : Int) (hn : (Lit.int .i64 n).wf = true) :
    Calls Try.prog 7 #[v, .int .i64 n] w fun e w' => e = .returned (.bool true) ∧ Below w.heap.size w w' := by
  clear hn
  obtain ⟨A, c, B, d, rfl, h1⟩ := hx.opened
  clear hx
  have S := (St.start w).new' #[.int .i64 x.o, .int .i64 x.s, .int .i64 x.a, .bool x.ov, .slice A x.adj.length c, .slice B x.pre.length d] 32 w.heap.size _ rfl rfl
  have K1 := fun W (hb : Below w.heap.size w W) => oset_nil W _ x (h1.below hb).co
  have K2 := fun W (hb : Below w.heap.size w W) => ohear_nil W _ x (h1.below hb)
  replace K1 := Lib.hid K1
  replace K2 := Lib.hid K2
  clear h1
  have a0 := S.c 0 0 rfl rfl
  have a1 := S.c 0 1 rfl rfl
  have a2 := S.c 0 2 rfl rfl
  have a3 := S.c 0 3 rfl rfl
  have a4 := S.c 0 4 rfl rfl
  have a5 := S.c 0 5 rfl rfl
  go_enter Try.func7, Try.ntmps7
  go_wp2_with fail
  (with_reducible refine (lawco_any _ _ _ _ _ _ _ _ _ _ _).mono ?_)
  rintro e w1 ⟨rfl, hb⟩
  replace S := S.call hb
  clear hb
  go_wp2_with fail
  (with_reducible refine (K1.out _ S.b).mono ?_)
  rintro e w2 ⟨rfl, hb⟩
  replace S := S.call hb
  clear hb
  clear a0 a1 a2 a3 a4 a5
  have a0 := S.c 0 0 rfl rfl
  have a1 := S.c 0 1 rfl rfl
  have a2 := S.c 0 2 rfl rfl
  have a3 := S.c 0 3 rfl rfl
  have a4 := S.c 0 4 rfl rfl
  have a5 := S.c 0 5 rfl rfl
  go_wp2_with fail
  (with_reducible refine (K2.out _ S.b).mono ?_)
  rintro e w3 ⟨rfl, hb⟩
  replace S := S.call hb
  clear hb
  clear a0 a1 a2 a3 a4 a5
  go_wp2_with fail
  (with_reducible refine (current_nil _).mono ?_)
  rintro e w4 ⟨rfl, hb⟩
  replace S := S.call hb
  clear hb
  replace S := S.new' #[.int .i64 0, .int .i64 0, .int .i64 0, .bool false, .slice none 0 0, .slice none 0 0] 32 (w4.heap.size) _ (by first | rfl | simp) rfl
  go_wp2_with fail
  (with_reducible refine (awake_any _).mono ?_)
  rintro e w5 ⟨rfl, hb⟩
  replace S := S.call hb
  clear hb
  go_wp2_with fail
  (with_reducible refine (otick_nil _ _).mono ?_)
  rintro e w6 ⟨rfl, rfl⟩
  go_wp2_with fail
  (with_reducible refine (floor_nil _).mono ?_)
  rintro e w6 ⟨rfl, rfl⟩
  go_wp2_with fail
  go_ret
  exact ⟨rfl, S.b⟩

theorem St.via {W w w' : World} {bs : List (Nat × List Value)} {rs : List (Option Addr × List Value)} {g : Nat} (S : St W w bs rs) (hg : w.grownBy w' (some g)) (hB : W.heap.size ≤ g) (hd : ∀ x ∈ bs, x.1 ≠ g ∧ 0 < x.2.length) : St W w' bs rs :=
  ⟨below_via S.b hg hB S.b.size, fun i x hx => (S.bx i x hx).kept hg (fun e => by injection e with e; exact (hd x (List.mem_of_getElem? hx)).1 e) (hd x (List.mem_of_getElem? hx)).2, S.rd⟩
theorem num_valid {x : La} {o s : Int} (h : LaValid (num o s 0 x)) (s' : Int) (h1 : 1 ≤ s') (h2 : s' ≤ 1073741824) : LaValid (num o s' 0 x) := by
  obtain ⟨k1, k2, k3, k4, k5, k6, k7, k8⟩ := h
  exact ⟨k1, ⟨h1, h2⟩, k3, k4, k5, k6, k7, k8⟩

set_option maxRecDepth 100000 in
set_option maxHeartbeats 6400000 in
theorem wins_law (w : World) (v : Value) (x : La) (hx : LaAt w v x) (u : Value) (y : La) (hy : LaAt w u y) :
    Calls Try.prog 5 #[v, u] w fun e w' => e = .returned (.bool true) ∧ Below w.heap.size w w' := by
  obtain ⟨A, c, B, d, rfl, h1⟩ := hx.opened
  obtain ⟨A', c', B', d', rfl, h2⟩ := hy.opened
  clear hx hy
  have S := ((St.start w).new' #[.int .i64 x.o, .int .i64 x.s, .int .i64 x.a, .bool x.ov, .slice A x.adj.length c, .slice B x.pre.length d] 32 w.heap.size _ rfl rfl).new' #[.int .i64 y.o, .int .i64 y.s, .int .i64 y.a, .bool y.ov, .slice A' y.adj.length c', .slice B' y.pre.length d'] 32 (w.heap.size + 1) _ (by simp) rfl
  have F1 := fun W hb => few_any W _ x (h1.below hb)
  have F2 := fun W hb => few_any W _ y (h2.below hb)
  have V1 := fun W hb => rvalid_at W _ x (h1.below hb)
  have V2 := fun W hb => rvalid_at W _ (num x.o 1 0 y) ((h2.below hb).renum x.o 1 0 y.ov)
  have hfl : fewB y = true → y.adj.length ≤ 300 ∧ y.pre.length ≤ 100 := fun h => by simpa [fewB] using h
  obtain ⟨f1, hf1⟩ : ∃ f1, fewB x = f1 := ⟨_, rfl⟩
  obtain ⟨f2, hf2⟩ : ∃ f1, fewB y = f1 := ⟨_, rfl⟩
  obtain ⟨v1, hv1⟩ : ∃ f1, vB x = f1 := ⟨_, rfl⟩
  obtain ⟨v2, hv2⟩ : ∃ f1, vB (num x.o 1 0 y) = f1 := ⟨_, rfl⟩
  rw [hf1] at F1
  rw [hf2] at F2 hfl
  rw [hv1] at V1
  rw [hv2] at V2
  clear hf1 hf2
  replace F1 := Lib.hid F1
  replace F2 := Lib.hid F2
  replace V1 := Lib.hid V1
  replace V2 := Lib.hid V2
  replace hv1 := Lib.hid hv1
  replace hv2 := Lib.hid hv2
  replace hfl := Lib.hid hfl
  go_enter Try.func5, Try.ntmps5
  go_wp2_with fail
  (with_reducible refine (awake_any _).mono ?_)
  rintro e w1 ⟨rfl, hb⟩
  replace S := S.call hb
  clear hb
  have a0 := S.c 1 0 rfl rfl
  have a1 := S.c 1 1 rfl rfl
  have a2 := S.c 1 2 rfl rfl
  have a3 := S.c 1 3 rfl rfl
  have a4 := S.c 1 4 rfl rfl
  have a5 := S.c 1 5 rfl rfl
  go_wp2_with fail
  (with_reducible refine (F1.out _ S.b).mono ?_)
  rintro e w2 ⟨rfl, hb⟩
  replace S := S.call hb
  clear hb
  clear a0 a1 a2 a3 a4 a5
  cases f1 with
  | false =>
    go_wp2_with fail
    go_ret
    exact ⟨rfl, S.b⟩
  | true =>
  have b0 := S.c 0 0 rfl rfl
  have b1 := S.c 0 1 rfl rfl
  have b2 := S.c 0 2 rfl rfl
  have b3 := S.c 0 3 rfl rfl
  have b4 := S.c 0 4 rfl rfl
  have b5 := S.c 0 5 rfl rfl
  go_wp2_with fail
  (with_reducible refine (F2.out _ S.b).mono ?_)
  rintro e w3 ⟨rfl, hb⟩
  replace S := S.call hb
  clear hb
  clear b0 b1 b2 b3 b4 b5
  cases f2 with
  | false =>
    go_wp2_with fail
    go_ret
    exact ⟨rfl, S.b⟩
  | true =>
  have a0 := S.c 1 0 rfl rfl
  have a1 := S.c 1 1 rfl rfl
  have a2 := S.c 1 2 rfl rfl
  have a3 := S.c 1 3 rfl rfl
  have a4 := S.c 1 4 rfl rfl
  have a5 := S.c 1 5 rfl rfl
  go_wp2_with fail
  (with_reducible refine (V1.out _ S.b).mono ?_)
  rintro e w4 ⟨rfl, hb⟩
  replace S := S.call hb
  clear hb
  clear a0 a1 a2 a3 a4 a5
  cases v1 with
  | false =>
    go_wp2_with fail
    go_ret
    exact ⟨rfl, S.b⟩
  | true =>
  have a0 := S.c 1 0 rfl rfl
  have a1 := S.c 1 1 rfl rfl
  have a2 := S.c 1 2 rfl rfl
  have a3 := S.c 1 3 rfl rfl
  have a4 := S.c 1 4 rfl rfl
  have a5 := S.c 1 5 rfl rfl
  have b0 := S.c 0 0 rfl rfl
  have b1 := S.c 0 1 rfl rfl
  have b2 := S.c 0 2 rfl rfl
  have b3 := S.c 0 3 rfl rfl
  have b4 := S.c 0 4 rfl rfl
  have b5 := S.c 0 5 rfl rfl
  go_wp2_with fail
  (with_reducible refine (rwith_any _ _ _ _ _ _ _ _ _ _ _ _ _).mono ?_)
  rintro e w5 ⟨rfl, hb⟩
  replace S := S.call hb
  clear hb
  go_wp2_with fail
  (with_reducible refine (V2.out _ S.b).mono ?_)
  rintro e w6 ⟨rfl, hb⟩
  replace S := S.call hb
  clear hb
  clear a0 a1 a2 a3 a4 a5
  clear b0 b1 b2 b3 b4 b5
  cases v2 with
  | false =>
    go_wp2_with fail
    go_ret
    exact ⟨rfl, S.b⟩
  | true =>
  have hvx := vB_iff.1 hv1.out
  have hvn := vB_iff.1 hv2.out
  have hfl2 := hfl.out (by simp)
  have hox := hvx.1
  have hsx := hvx.2.1
  clear F1 F2 V1 V2 hv1 hv2 hfl
  replace hvx := Lib.hid hvx
  replace hvn := Lib.hid hvn
  have a0 := S.c 1 0 rfl rfl
  have a1 := S.c 1 1 rfl rfl
  have a2 := S.c 1 2 rfl rfl
  have a3 := S.c 1 3 rfl rfl
  have a4 := S.c 1 4 rfl rfl
  have a5 := S.c 1 5 rfl rfl
  have N := onew_ok w6 x.o hox.1 (by omega)
  unfold OrNew at N
  rw [show (⟨x.o, 0, 0, false, [], []⟩ : La) = bare x.o 0 0 false from rfl] at N
  replace N := Lib.hid N
  have hlt := S.lt 0 rfl (by simp)
  have hlt1 := S.lt 1 rfl (by simp)
  go_wp2_with fail
  (with_reducible refine (N.out).mono ?_)
  rintro e w7 ⟨rfl, oat, hb⟩
  clear N
  clear a0 a1 a2 a3 a4 a5
  have hgs := S.b.size
  replace S := S.call hb
  clear hb
  generalize hg6 : w6.heap.size = g at *
  have hd : Hid (∀ u1 u2 : List Value, 0 < u1.length → 0 < u2.length → ∀ x ∈ [(w.heap.size + 1, u1), (w.heap.size, u2)], x.1 ≠ g ∧ 0 < x.2.length) := fun u1 u2 h1 h2 x hx => by
    simp only [List.mem_cons, List.not_mem_nil, or_false] at hx
    rcases hx with rfl | rfl
    · exact ⟨by simp only; omega, h1⟩
    · exact ⟨by simp only; omega, h2⟩
  clear hg6
  have K := fun W (hb : Below w.heap.size w W) hO => oset_any W g _ (bare x.o 0 0 false) y false hO (h2.below hb).co (by omega) (by omega) (by simp [bare]) (by simp [bare])
  rw [show setP (bare x.o 0 0 false) false y = ⟨num x.o 1 0 y, true, true, 0⟩ by unfold setP; rw [show num (bare x.o 0 0 false).o 1 0 y = num x.o 1 0 y from rfl, vB_t hvn.out, if_pos rfl, if_neg (by simp), if_neg (by simp [bare])]; rfl] at K
  unfold OrPost at K
  replace K := Lib.hid K
  have b0 := S.c 0 0 rfl rfl
  have b1 := S.c 0 1 rfl rfl
  have b2 := S.c 0 2 rfl rfl
  have b3 := S.c 0 3 rfl rfl
  have b4 := S.c 0 4 rfl rfl
  have b5 := S.c 0 5 rfl rfl
  go_wp2_with fail
  (with_reducible refine (lawco_any _ _ _ _ _ _ _ _ _ _ _).mono ?_)
  rintro e w8 ⟨rfl, hb⟩
  replace S := S.call hb
  replace oat := oat.below hb
  clear hb
  clear b0 b1 b2 b3 b4 b5
  go_wp2_with fail
  (with_reducible refine (K.out _ S.b oat).mono ?_)
  rintro e w9 ⟨rfl, oat9, hg⟩
  clear K oat
  replace S := S.via hg hgs (hd.out _ _ (by simp) (by simp))
  clear hg
  have L := ohear_any w9 g _ (num x.o 1 0 y) x true oat9 (h1.below S.b) (by simp only [num]; omega) (by simp only [num]; omega) (by simp [num]) (by simp [num])
  have hnv : Hid (LaValid (num x.o 1 0 y)) := hvn.out
  obtain ⟨z, hz⟩ : ∃ z, hearP (num x.o 1 0 y) true x = z := ⟨_, rfl⟩
  have hres : Hid ((z = ⟨num x.o 1 0 y, true, false, 0⟩ ∧ newI x (num x.o 1 0 y) ≤ 0) ∨ (z = ⟨num x.o 1 0 y, true, false, 6⟩ ∧ x.s = 1073741824) ∨ (z = ⟨num x.o (x.s + 1) 0 y, true, true, 0⟩ ∧ newI x (num x.o (x.s + 1) 0 y) ≤ 0)) := by
    show _ ∨ _
    unfold hearP at hz
    rw [vB_t hvx.out, if_pos ⟨rfl, rfl⟩, if_pos rfl] at hz
    split at hz
    · next h => exact .inl ⟨hz.symm, h⟩
    · split at hz
      · exact .inr (.inl ⟨hz.symm, by omega⟩)
      · refine .inr (.inr ⟨hz.symm, ?_⟩)
        rw [newI_s hvx.out (num_valid hvn.out (x.s + 1) (by omega) (by omega)) (by simp only [num]; omega)]
        simp only [num, cmpI]
        omega
  rw [hz] at L
  unfold OrPost at L
  replace L := Lib.hid L
  clear hz oat9
  have a0 := S.c 1 0 rfl rfl
  have a1 := S.c 1 1 rfl rfl
  have a2 := S.c 1 2 rfl rfl
  have a3 := S.c 1 3 rfl rfl
  have a4 := S.c 1 4 rfl rfl
  have a5 := S.c 1 5 rfl rfl
  go_wp2_with fail
  (with_reducible refine (L.out).mono ?_)
  rintro e w10 ⟨rfl, oat, hg⟩
  clear L
  clear a0 a1 a2 a3 a4 a5
  replace S := S.via hg hgs (hd.out _ _ (by simp) (by simp))
  clear hg
  rcases hres.out with ⟨rfl, hle⟩ | ⟨rfl, hle⟩ | ⟨rfl, hle⟩
  · skip
    clear hres
    have C := current_any w10 g (num x.o 1 0 y) true oat (by simp only [num]; omega) (by simp only [num]; omega)
    rw [show CurPost w10 (num x.o 1 0 y) true = fun e w' => ∃ v, e = .returned (.tuple #[v, .bool true]) ∧ LaOwn w' w10.heap.size v (num x.o 1 0 y) ∧ Below w10.heap.size w10 w' from rfl] at C
    replace C := Lib.hid C
    clear oat
    go_wp2_with fail
    (with_reducible refine (C.out).mono ?_)
    rintro e w11 ⟨v11, rfl, hown, hb⟩
    replace S := S.call hb
    clear hb
    clear C
    obtain ⟨A7, c7, B7, d7, hv7, hL7⟩ := hown.open
    subst hv7
    clear hown
    have h7 := hL7.out _ (Below.refl _ _)
    clear hL7
    generalize hX : num x.o 1 0 y = X at *
    have hcb : conB X y = true := by rw [← hX]; simp [conB, num]
    have hXs : X.s = 1 := by rw [← hX]; rfl
    clear hX
    replace S := S.new' #[.int .i64 X.o, .int .i64 X.s, .int .i64 X.a, .bool X.ov, .slice A7 X.adj.length c7, .slice B7 X.pre.length d7] 32 (w11.heap.size) _ (by first | rfl | simp) rfl
    replace h7 := h7.below (below_new' _ (.cells #[.int .i64 X.o, .int .i64 X.s, .int .i64 X.a, .bool X.ov, .slice A7 X.adj.length c7, .slice B7 X.pre.length d7] 32))
    have q0 := S.c 0 0 rfl rfl
    have q1 := S.c 0 1 rfl rfl
    have q2 := S.c 0 2 rfl rfl
    have q3 := S.c 0 3 rfl rfl
    have q4 := S.c 0 4 rfl rfl
    have q5 := S.c 0 5 rfl rfl
    have b0 := S.c 1 0 rfl rfl
    have b1 := S.c 1 1 rfl rfl
    have b2 := S.c 1 2 rfl rfl
    have b3 := S.c 1 3 rfl rfl
    have b4 := S.c 1 4 rfl rfl
    have b5 := S.c 1 5 rfl rfl
    have CO := contents_any _ _ _ X y h7 (h2.below S.b)
    rw [hcb] at CO
    replace CO := Lib.hid CO
    replace hXs := Lib.hid hXs
    clear hcb
    go_wp2_with fail
    (with_reducible refine (CO.out).mono ?_)
    rintro e w12 ⟨rfl, hb⟩
    clear CO
    clear q0 q1 q2 q3 q4 q5
    clear b0 b1 b2 b3 b4 b5
    replace S := S.call hb
    replace h7 := h7.below hb
    clear hb
    have q0 := S.c 0 0 rfl rfl
    have q1 := S.c 0 1 rfl rfl
    have q2 := S.c 0 2 rfl rfl
    have q3 := S.c 0 3 rfl rfl
    have q4 := S.c 0 4 rfl rfl
    have q5 := S.c 0 5 rfl rfl
    have a0 := S.c 2 0 rfl rfl
    have a1 := S.c 2 1 rfl rfl
    have a2 := S.c 2 2 rfl rfl
    have a3 := S.c 2 3 rfl rfl
    have a4 := S.c 2 4 rfl rfl
    have a5 := S.c 2 5 rfl rfl
    have NE := lnewer_any _ _ _ x X (h1.below S.b) h7
    replace NE := Lib.hid NE
    clear h7
    generalize newI x X = nz at *
    go_wp2_with fail
    (with_reducible refine (NE.out).mono ?_)
    rintro e w13 ⟨rfl, hb⟩
    replace S := S.call hb
    go_wp2_with fail
    go_ret
    exact ⟨rfl, S.b⟩
  · skip
    clear hres
    have C := current_any w10 g (num x.o 1 0 y) true oat (by simp only [num]; omega) (by simp only [num]; omega)
    rw [show CurPost w10 (num x.o 1 0 y) true = fun e w' => ∃ v, e = .returned (.tuple #[v, .bool true]) ∧ LaOwn w' w10.heap.size v (num x.o 1 0 y) ∧ Below w10.heap.size w10 w' from rfl] at C
    replace C := Lib.hid C
    clear oat
    go_wp2_with fail
    (with_reducible refine (C.out).mono ?_)
    rintro e w11 ⟨v11, rfl, hown, hb⟩
    replace S := S.call hb
    clear hb
    clear C
    obtain ⟨A7, c7, B7, d7, hv7, hL7⟩ := hown.open
    subst hv7
    clear hown
    have h7 := hL7.out _ (Below.refl _ _)
    clear hL7
    generalize hX : num x.o 1 0 y = X at *
    have hcb : conB X y = true := by rw [← hX]; simp [conB, num]
    have hXs : X.s = 1 := by rw [← hX]; rfl
    clear hX
    replace S := S.new' #[.int .i64 X.o, .int .i64 X.s, .int .i64 X.a, .bool X.ov, .slice A7 X.adj.length c7, .slice B7 X.pre.length d7] 32 (w11.heap.size) _ (by first | rfl | simp) rfl
    replace h7 := h7.below (below_new' _ (.cells #[.int .i64 X.o, .int .i64 X.s, .int .i64 X.a, .bool X.ov, .slice A7 X.adj.length c7, .slice B7 X.pre.length d7] 32))
    have q0 := S.c 0 0 rfl rfl
    have q1 := S.c 0 1 rfl rfl
    have q2 := S.c 0 2 rfl rfl
    have q3 := S.c 0 3 rfl rfl
    have q4 := S.c 0 4 rfl rfl
    have q5 := S.c 0 5 rfl rfl
    have b0 := S.c 1 0 rfl rfl
    have b1 := S.c 1 1 rfl rfl
    have b2 := S.c 1 2 rfl rfl
    have b3 := S.c 1 3 rfl rfl
    have b4 := S.c 1 4 rfl rfl
    have b5 := S.c 1 5 rfl rfl
    have CO := contents_any _ _ _ X y h7 (h2.below S.b)
    rw [hcb] at CO
    replace CO := Lib.hid CO
    replace hXs := Lib.hid hXs
    clear hcb
    go_wp2_with fail
    (with_reducible refine (CO.out).mono ?_)
    rintro e w12 ⟨rfl, hb⟩
    clear CO
    clear q0 q1 q2 q3 q4 q5
    clear b0 b1 b2 b3 b4 b5
    replace S := S.call hb
    replace h7 := h7.below hb
    clear hb
    have q0 := S.c 0 0 rfl rfl
    have q1 := S.c 0 1 rfl rfl
    have q2 := S.c 0 2 rfl rfl
    have q3 := S.c 0 3 rfl rfl
    have q4 := S.c 0 4 rfl rfl
    have q5 := S.c 0 5 rfl rfl
    have a0 := S.c 2 0 rfl rfl
    have a1 := S.c 2 1 rfl rfl
    have a2 := S.c 2 2 rfl rfl
    have a3 := S.c 2 3 rfl rfl
    have a4 := S.c 2 4 rfl rfl
    have a5 := S.c 2 5 rfl rfl
    have e1 : (x.s == 1073741824) = true := by simpa using hle
    have e2 : (X.s == 1) = true := by rw [hXs.out]; rfl
    clear h7 hle
    go_wp2_with fail
    go_ret
    exact ⟨rfl, S.b⟩
  · skip
    clear hres
    have C := current_any w10 g (num x.o (x.s + 1) 0 y) true oat (by simp only [num]; omega) (by simp only [num]; omega)
    rw [show CurPost w10 (num x.o (x.s + 1) 0 y) true = fun e w' => ∃ v, e = .returned (.tuple #[v, .bool true]) ∧ LaOwn w' w10.heap.size v (num x.o (x.s + 1) 0 y) ∧ Below w10.heap.size w10 w' from rfl] at C
    replace C := Lib.hid C
    clear oat
    go_wp2_with fail
    (with_reducible refine (C.out).mono ?_)
    rintro e w11 ⟨v11, rfl, hown, hb⟩
    replace S := S.call hb
    clear hb
    clear C
    obtain ⟨A7, c7, B7, d7, hv7, hL7⟩ := hown.open
    subst hv7
    clear hown
    have h7 := hL7.out _ (Below.refl _ _)
    clear hL7
    generalize hX : num x.o (x.s + 1) 0 y = X at *
    have hcb : conB X y = true := by rw [← hX]; simp [conB, num]
    have hXs : X.s = x.s + 1 := by rw [← hX]; rfl
    clear hX
    replace S := S.new' #[.int .i64 X.o, .int .i64 X.s, .int .i64 X.a, .bool X.ov, .slice A7 X.adj.length c7, .slice B7 X.pre.length d7] 32 (w11.heap.size) _ (by first | rfl | simp) rfl
    replace h7 := h7.below (below_new' _ (.cells #[.int .i64 X.o, .int .i64 X.s, .int .i64 X.a, .bool X.ov, .slice A7 X.adj.length c7, .slice B7 X.pre.length d7] 32))
    have q0 := S.c 0 0 rfl rfl
    have q1 := S.c 0 1 rfl rfl
    have q2 := S.c 0 2 rfl rfl
    have q3 := S.c 0 3 rfl rfl
    have q4 := S.c 0 4 rfl rfl
    have q5 := S.c 0 5 rfl rfl
    have b0 := S.c 1 0 rfl rfl
    have b1 := S.c 1 1 rfl rfl
    have b2 := S.c 1 2 rfl rfl
    have b3 := S.c 1 3 rfl rfl
    have b4 := S.c 1 4 rfl rfl
    have b5 := S.c 1 5 rfl rfl
    have CO := contents_any _ _ _ X y h7 (h2.below S.b)
    rw [hcb] at CO
    replace CO := Lib.hid CO
    replace hXs := Lib.hid hXs
    clear hcb
    go_wp2_with fail
    (with_reducible refine (CO.out).mono ?_)
    rintro e w12 ⟨rfl, hb⟩
    clear CO
    clear q0 q1 q2 q3 q4 q5
    clear b0 b1 b2 b3 b4 b5
    replace S := S.call hb
    replace h7 := h7.below hb
    clear hb
    have q0 := S.c 0 0 rfl rfl
    have q1 := S.c 0 1 rfl rfl
    have q2 := S.c 0 2 rfl rfl
    have q3 := S.c 0 3 rfl rfl
    have q4 := S.c 0 4 rfl rfl
    have q5 := S.c 0 5 rfl rfl
    have a0 := S.c 2 0 rfl rfl
    have a1 := S.c 2 1 rfl rfl
    have a2 := S.c 2 2 rfl rfl
    have a3 := S.c 2 3 rfl rfl
    have a4 := S.c 2 4 rfl rfl
    have a5 := S.c 2 5 rfl rfl
    have NE := lnewer_any _ _ _ x X (h1.below S.b) h7
    replace NE := Lib.hid NE
    clear h7
    generalize newI x X = nz at *
    go_wp2_with fail
    (with_reducible refine (NE.out).mono ?_)
    rintro e w13 ⟨rfl, hb⟩
    replace S := S.call hb
    go_wp2_with fail
    go_ret
    exact ⟨rfl, S.b⟩

end Go.Proofs.Ytfpoghhjpfkbaaa

namespace Go.Proofs.Ytfpoghhjpfkbaaa
set_option linter.unusedVariables false
open Go.RowKit Go.Sort

def Lens (x : La) : Prop := x.adj.length ≤ 300 ∧ x.pre.length ≤ 100
theorem vB_num {x : La} (h0 : 0 ≤ x.a) (h1 : x.a ≤ 3599) : vB (num x.o x.s 0 x) = vB x := by
  have : LaValid (num x.o x.s 0 x) ↔ LaValid x := by
    constructor
    · rintro ⟨k1, k2, k3, k4, k5, k6, k7, k8⟩
      exact ⟨k1, k2, ⟨h0, by omega⟩, k4, k5, fun h => by omega, k7, k8⟩
    · rintro ⟨k1, k2, k3, k4, k5, k6, k7, k8⟩
      exact ⟨k1, k2, ⟨by simp [num], by simp [num]⟩, k4, k5, fun h => by simp [num] at h, k7, k8⟩
  rw [Bool.eq_iff_iff, vB_iff, vB_iff]; exact this
theorem newI_num (a : La) {x : La} (h0 : 0 ≤ x.a) (h1 : x.a ≤ 3599) : newI a (num x.o x.s 0 x) = newI a x := by
  unfold newI
  rw [vB_num h0 h1, show age0 (num x.o x.s 0 x) = age0 x from rfl, show (num x.o x.s 0 x).s = x.s from rfl, show ((num x.o x.s 0 x).a == 3600) = (x.a == 3600) by
    rw [show ((num x.o x.s 0 x).a == 3600) = false from rfl]; symm; rw [beq_eq_false_iff_ne]; omega]
theorem conB_num (o s a : Int) (x y : La) : conB (num o s a x) y = conB x y := rfl
def Agree (z : OrR) (z' : RR) : Prop := Rel z.x z.now z'.r ∧ z.made = z'.made ∧ z.err = z'.err ∧ Inv z.x z.now ∧ Lens z.x
theorem Rel.same {x : La} {mk : Bool} {r : RO} (h : Rel x mk r) (hi : Inv x mk) (hl : Lens x) (err : Int) : Agree ⟨x, mk, false, err⟩ ⟨r, false, err⟩ := ⟨h, rfl, rfl, hi, hl⟩
theorem Rel.new {x y : La} {r : RO} {mk : Bool} (h : Rel x mk r) (s : Int) (h0 : 0 ≤ s) (h1 : s < 1073741824) (hl : Lens y) : Agree ⟨num x.o (s + 1) 0 y, true, true, 0⟩ ⟨⟨r.node, s + 1, true, num r.node (s + 1) 0 y, 0⟩, true, 0⟩ := by
  obtain ⟨e1, _⟩ := h
  refine ⟨⟨e1, rfl, rfl, fun _ => ⟨by rw [e1]; rfl, rfl⟩, fun h => by simp at h⟩, rfl, rfl, ⟨by simp only [num]; omega, by simp only [num]; omega, by simp [num], by simp [num], .inl (by simp [num])⟩, hl⟩
theorem set_agree {x y : La} {mk : Bool} {r : RO} (h : Rel x mk r) (hi : Inv x mk) (hl : Lens x) (hy : Lens y) : Agree (setP x mk y) (rsetP r y) := by
  obtain ⟨e1, e2, e3, e4, e5⟩ := id h
  unfold setP rsetP
  rw [e1, e2, e3]
  by_cases hv : vB (num x.o 1 0 y) = true
  · rw [if_pos hv, if_pos hv]
    have hc : (mk = true ∧ conB r.now y = true) ↔ (mk = true ∧ conB x y = true) := by
      constructor
      · rintro ⟨a, b⟩; refine ⟨a, ?_⟩; rw [(e4 a).1, conB_num] at b; exact b
      · rintro ⟨a, b⟩; refine ⟨a, ?_⟩; rw [(e4 a).1, conB_num]; exact b
    by_cases hm : mk = true ∧ conB x y = true
    · rw [if_pos hm, if_pos (hc.2 hm)]; exact h.same hi hl 0
    · rw [if_neg hm, if_neg (fun h => hm (hc.1 h))]
      by_cases hf : 1073741824 ≤ x.s
      · rw [if_pos hf, if_pos hf]; exact h.same hi hl 6
      · rw [if_neg hf, if_neg hf, ← e1]
        have := h.new (y := y) x.s hi.1 (by omega) hy
        rw [e1] at this ⊢
        exact this
  · rw [if_neg hv, if_neg hv]; exact h.same hi hl 1
theorem hear_agree {x a : La} {mk : Bool} {r : RO} (h : Rel x mk r) (hi : Inv x mk) (hl : Lens x) : Agree (hearP x mk a) (rhearP r a) := by
  obtain ⟨e1, e2, e3, e4, e5⟩ := id h
  obtain ⟨i1, i2, i3, i4, i5⟩ := id hi
  unfold hearP rhearP
  rw [e1, e3]
  by_cases hv : vB a = true ∧ a.o = x.o
  · rw [if_pos hv, if_pos hv]
    have hva := (vB_iff.1 hv.1).2.1
    cases mk with
    | true =>
      rw [if_pos rfl, if_pos rfl, (e4 rfl).1, newI_num a i3 i4]
      by_cases hz : newI a x ≤ 0
      · rw [if_pos hz, if_pos hz]; exact h.same hi hl 0
      · rw [if_neg hz, if_neg hz]
        by_cases hf : 1073741824 ≤ a.s
        · rw [if_pos hf, if_pos hf]; exact h.same hi hl 6
        · rw [if_neg hf, if_neg hf]
          have := h.new (y := x) a.s (by omega) (by omega) hl
          rw [e1] at this
          exact this
    | false =>
      rw [if_neg (by simp), if_neg (by simp), e2]
      refine ⟨⟨rfl, rfl, rfl, fun h => by simp at h, e5⟩, rfl, rfl, ⟨by simp only [num]; omega, by simp only [num]; omega, i3, i4, ?_⟩, hl⟩
      rcases i5 with h | h
      · exact .inl h
      · exact .inr (by simp only [num]; omega)
  · rw [if_neg hv, if_neg hv]; exact h.same hi hl 1
theorem tick_inv {x : La} {mk : Bool} (n : Int) (hi : Inv x mk) (hl : Lens x) : Inv (tickX x mk n) mk ∧ Lens (tickX x mk n) := by
  cases mk with
  | false =>
    have e1 : tickX x false n = x := by unfold tickX; rw [if_neg (by simp)]
    rw [e1]; exact ⟨hi, hl⟩
  | true =>
    by_cases h0 : 0 ≤ n
    · rw [(tick_closed x n hi h0).1]
      refine ⟨?_, hl⟩
      obtain ⟨s0, s1, a0, a1, hc⟩ := hi
      have h1 : 0 ≤ tS x n ∧ tS x n ≤ 1073741824 - x.s := by unfold tS; split <;> omega
      have h2 : 0 ≤ capA (x.a + n - tS x n * 1800) ∧ capA (x.a + n - tS x n * 1800) ≤ 3599 := by
        unfold capA tS; split <;> split <;> omega
      have h3 : capA (x.a + n - tS x n * 1800) < 1800 ∨ 1073741824 ≤ x.s + tS x n := by
        unfold capA tS; split <;> split <;> omega
      exact ⟨by simp only [num]; omega, by simp only [num]; omega, h2.1, h2.2, h3⟩
    · have e1 : tickX x true n = x := by unfold tickX; rw [if_neg (by omega)]
      rw [e1]; exact ⟨hi, hl⟩
theorem cur_agree {x : La} {mk : Bool} {r : RO} (h : Rel x mk r) : curX x mk = curR r := by
  obtain ⟨e1, e2, e3, e4, e5⟩ := h
  unfold curX curR
  rw [e3]
  cases mk with
  | true =>
    rw [if_pos rfl, if_pos rfl, (e4 rfl).1, (e4 rfl).2]; rfl
  | false => rw [if_neg (by simp), if_neg (by simp), (e5 rfl).1]


end Go.Proofs.Ytfpoghhjpfkbaaa
