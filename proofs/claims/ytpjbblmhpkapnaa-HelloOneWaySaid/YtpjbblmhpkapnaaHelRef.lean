/-
  The contracts of the reference of layer 34, and of the statements' first check.
-/
import Derived.Test.YtpjbblmhpkapnaaHel
namespace Go.Proofs.Ytpjbblmhpkapnaa
set_option linter.unusedVariables false
open Go.RowKit

theorem below_two (w : World) (o o' : Obj) : Below w.heap.size w ((w.alloc o).alloc o') := (below_new w o).alloc (by simp) o'
theorem bcell {W w1 : World} (hb : Below W.heap.size W w1) : (∀ b o, b < W.heap.size → w1.cell? ⟨b, o, none⟩ = W.cell? ⟨b, o, none⟩) ∧ (∀ b o, b < W.heap.size → w1.frozen? ⟨b, o, none⟩ = W.frozen? ⟨b, o, none⟩) :=
  ⟨fun b o h => hb.cell (p := ⟨b, o, none⟩) h, fun b o h => hb.frozen (p := ⟨b, o, none⟩) h⟩

set_option maxHeartbeats 400000 in
theorem rvalid_any (p l : Int) (w : World) :
    Calls Try.prog 12 #[.agg #[.int .i64 p, .int .i64 l]] w fun e w' => e = .returned (.bool (vld p l)) ∧ Below w.heap.size w w' := by
  go_enter Try.func12, Try.ntmps12
  go_wp2
  all_goals
    go_ret
    refine ⟨ret_bool ?_, below_new _ _⟩
    first
      | (simp [vld, *]; done)
      | (simp [vld, *] at *; omega)

set_option maxHeartbeats 400000 in
theorem rreceive_any (seen : Bool) (hold : Int) (w : World) :
    Calls Try.prog 13 #[.bool seen, .int .i64 hold] w fun e w' => e = .returned (.agg #[.int .i64 (if seen then 2 else 1), .int .i64 hold]) ∧ Below w.heap.size w w' := by
  cases seen
  all_goals
    go_enter Try.func13, Try.ntmps13
    go_wp2
    refine bodyPost_ret (by simp [results, Try.results13, go_sem]; rfl) rfl ⟨by simp, below_new _ _⟩

set_option maxHeartbeats 400000 in
theorem revent_any (p l q m : Int) (w : World) :
    Calls Try.prog 14 #[.agg #[.int .i64 p, .int .i64 l], .agg #[.int .i64 q, .int .i64 m]] w fun e w' => e = .returned (.int .i64 (evt p q)) ∧ Below w.heap.size w w' := by
  go_enter Try.func14, Try.ntmps14
  go_wp2
  all_goals
    go_ret
    refine ⟨ret_int ?_, below_two _ _ _⟩
    simp_all [evt]

theorem tk_done {p l n : Int} (hv : 0 ≤ l ∧ l ≤ 65536 ∧ 0 ≤ p ∧ p ≤ 2 ∧ (p = 0 ↔ l = 0)) (k : Nat) (h : l ≤ k) (hk : k ≤ n ∨ k = 0) : tkP p l n = 0 ∧ tkL p l n = 0 := by
  unfold tkP tkL
  by_cases h1 : n ≤ 0 ∨ p = 0
  · rw [if_pos h1, if_pos h1]; omega
  · rw [if_neg h1, if_neg h1, if_pos (by omega), if_pos (by omega)]; omega
theorem tk_stop {p l n : Int} (hv : 0 ≤ l ∧ l ≤ 65536 ∧ 0 ≤ p ∧ p ≤ 2 ∧ (p = 0 ↔ l = 0)) (k : Nat) (h : ¬ l ≤ k) (hk : k ≤ n ∨ k = 0) (hn : n ≤ k) : tkP p l n = p ∧ tkL p l n = l - k := by
  unfold tkP tkL
  by_cases h1 : n ≤ 0 ∨ p = 0
  · rw [if_pos h1, if_pos h1]; omega
  · rw [if_neg h1, if_neg h1, if_neg (by omega), if_neg (by omega)]; omega

set_option maxHeartbeats 800000 in
/-- The reference's ticks, as far as they go. -/
theorem rtick_any (p l n : Int) (w : World) (h : vld p l = true) (hn : n ≤ 9223372036854775807) :
    Calls Try.prog 17 #[.agg #[.int .i64 p, .int .i64 l], .int .i64 n] w fun e w' => e = .returned (.agg #[.int .i64 (tkP p l n), .int .i64 (tkL p l n)]) ∧ Below w.heap.size w w' := by
  have hv := vld_le h
  clear h
  go_enter Try.func17, Try.ntmps17
  go_wp2
  go_loopw [5] (fun v5 wr => ∃ k : Nat, v5 = .int .i64 k ∧ (k ≤ n ∨ k = 0) ∧ k ≤ 65536 ∧ Box wr w.heap.size [.int .i64 (if l ≤ k then 0 else p), .int .i64 (if l ≤ k then 0 else l - k)] ∧ Box wr (w.heap.size + 1) [.int .i64 0, .int .i64 0] ∧ Below w.heap.size w wr)
    (fun v5 _ => 65536 - (intOf v5).toNat)
  case atStart =>
    refine ⟨0, rfl, .inr rfl, by omega, ?_, ?_, below_two _ _ _⟩
    · have := (Box.new w #[.int .i64 p, .int .i64 l] 23).alloc (.cells #[.int .i64 0, .int .i64 0] 23)
      by_cases h0 : l = 0
      · have hp : p = 0 := by omega
        subst h0 hp
        simpa using this
      · have h1 : ¬ l ≤ 0 := by omega
        simpa [h1] using this
    · exact Box.new' _ _ _ _ _ (by simp) rfl
  case round =>
    obtain ⟨k, rfl, hkn, hk6, B0, B1, hb⟩ := hrel
    have d0 := B1.c 0 rfl
    have d1 := B1.c 1 rfl
    have g0 := B1.f 0 rfl
    have g1 := B1.f 1 rfl
    by_cases hlk : l ≤ k
    · rw [if_pos hlk, if_pos hlk] at B0
      obtain ⟨t1, t2⟩ := tk_done hv k hlk hkn
      have c0 := B0.c 0 rfl
      have c1 := B0.c 1 rfl
      go_wp2
      all_goals exact bodyPost_ret (v := .agg #[.int .i64 0, .int .i64 0]) (by simp [results, Try.results17, go_sem, d0, d1]) rfl ⟨by first | rfl | rw [t1, t2], (hb.setCell (p := ⟨w.heap.size + 1, 0, none⟩) (Nat.le_succ _) _).setCell (p := ⟨w.heap.size + 1, 1, none⟩) (Nat.le_succ _) _⟩
    · rw [if_neg hlk, if_neg hlk] at B0
      have c0 := B0.c 0 rfl
      have c1 := B0.c 1 rfl
      have f0 := B0.f 0 rfl
      have f1 := B0.f 1 rfl
      have hpos : 0 < l - k := by omega
      by_cases hlt : (k : Int) < n
      · by_cases hl1 : l - k - 1 = 0
        · have hl1' : (l - k - 1 == 0) = true := by simpa using hl1
          go_wp2
          go_roundw
          case rel =>
            have e1 : l ≤ ((k + 1 : Nat) : Int) := by omega
            refine ⟨k + 1, by go_num, by omega, by omega, ?_, ?_, ?_⟩
            · rw [if_pos e1, if_pos e1]
              exact (B0.set 1 (.int .i64 0) (by simp)).set 0 (.int .i64 0) (by simp)
            · exact (B1.far _ (by simp)).far _ (by simp)
            · exact (hb.setCell (p := ⟨w.heap.size, 1, none⟩) (Nat.le_refl _) _).setCell (p := ⟨w.heap.size, 0, none⟩) (Nat.le_refl _) _
          case measure => simp [intOf]; omega
        · have hl1' : (l - k - 1 == 0) = false := by simpa using hl1
          go_wp2
          go_roundw
          case rel =>
            have e1 : ¬ l ≤ ((k + 1 : Nat) : Int) := by omega
            refine ⟨k + 1, by go_num, by omega, by omega, ?_, ?_, ?_⟩
            · rw [if_neg e1, if_neg e1]
              have := B0.set 1 (.int .i64 (l - k - 1)) (by simp)
              rwa [show l - ((k + 1 : Nat) : Int) = l - k - 1 from by omega]
            · exact B1.far _ (by simp)
            · exact hb.setCell (p := ⟨w.heap.size, 1, none⟩) (Nat.le_refl _) _
          case measure => simp [intOf]; omega
      · obtain ⟨t1, t2⟩ := tk_stop hv k hlk hkn (by omega)
        go_wp2
        exact bodyPost_ret (v := .agg #[.int .i64 p, .int .i64 (l - k)]) (by simp [results, Try.results17, go_sem, d0, d1]) rfl ⟨by first | rfl | rw [t1, t2], (hb.setCell (p := ⟨w.heap.size + 1, 0, none⟩) (Nat.le_succ _) _).setCell (p := ⟨w.heap.size + 1, 1, none⟩) (Nat.le_succ _) _⟩

set_option maxHeartbeats 800000 in
theorem awake_any (w : World) : Calls Try.prog 10 #[] w fun e w' => e = .returned (.bool true) ∧ Below w.heap.size w w' := by
  have e1 : evt 0 1 = 0 := rfl
  have e2 : evt 1 2 = 1 := rfl
  have e3 : tkP 2 3 2 = 2 := rfl
  have e4 : tkL 2 3 2 = 1 := rfl
  have e5 : tkP 2 1 1 = 0 := rfl
  have e6 : tkL 2 1 1 = 0 := rfl
  have e7 : evt 2 2 = 0 := rfl
  have e8 : evt 2 0 = 2 := rfl
  go_enter Try.func10, Try.ntmps10
  go_wp2_with fail
  (with_reducible refine (receive_ok 0 0 3 false _ (by decide) (by omega) (by omega)).mono ?_)
  rintro e w1 ⟨rfl, hb1⟩
  go_wp2_with fail
  have B1 := Box.new w1 #[.int .i64 1, .int .i64 3] 25
  have b1 := hb1.alloc hb1.size (.cells #[.int .i64 1, .int .i64 3] 25)
  (with_reducible refine (receive_ok 1 3 3 true _ (by decide) (by omega) (by omega)).mono ?_)
  rintro e w2 ⟨rfl, hb2⟩
  have B1 := (B1.later hb2).alloc (.cells #[.int .i64 2, .int .i64 3] 25)
  have B2 := Box.new w2 #[.int .i64 2, .int .i64 3] 25
  have b2 := b1.trans (hb2.mono b1.size)
  have b2 := b2.alloc b2.size (.cells #[.int .i64 2, .int .i64 3] 25)
  clear hb1 hb2 b1
  go_wp2_with fail
  (with_reducible refine (tick_ok 2 3 2 _ (by decide)).mono ?_)
  rintro e w3 ⟨rfl, hb3⟩
  have B1 := (B1.later hb3).alloc (.cells #[.int .i64 2, .int .i64 1] 25)
  have B2 := (B2.later hb3).alloc (.cells #[.int .i64 2, .int .i64 1] 25)
  have B3 := Box.new w3 #[.int .i64 2, .int .i64 1] 25
  have b3 := b2.trans (hb3.mono b2.size)
  have b3 := b3.alloc b3.size (.cells #[.int .i64 2, .int .i64 1] 25)
  clear hb3 b2
  go_wp2_with fail
  (with_reducible refine (tick_ok 2 1 1 _ (by decide)).mono ?_)
  rintro e w4 ⟨rfl, hb4⟩
  have B1 := (B1.later hb4).alloc (.cells #[.int .i64 0, .int .i64 0] 25)
  have B2 := (B2.later hb4).alloc (.cells #[.int .i64 0, .int .i64 0] 25)
  have B3 := (B3.later hb4).alloc (.cells #[.int .i64 0, .int .i64 0] 25)
  have b4 := b3.trans (hb4.mono b3.size)
  clear hb4 b3
  have c1 := B1.c 0 rfl
  have c2 := B1.c 1 rfl
  have c3 := B2.c 0 rfl
  have c4 := B2.c 1 rfl
  have c5 := B3.c 0 rfl
  have c6 := B3.c 1 rfl
  clear B1 B2 B3
  go_wp2_with fail
  go_ret
  exact ⟨rfl, b4.alloc b4.size _⟩
end Go.Proofs.Ytpjbblmhpkapnaa
