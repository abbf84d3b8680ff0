/-
  The walks of the statements SpeakerPacks, SpeakerUnpacks.
-/
import Derived.Test.YtdepfgalaicpeaaMsRU
namespace Go.Proofs.Ytdepfgalaicpeaa
set_option linter.unusedVariables false
open Go.RowKit Go.Sort

/-- What was packed is found again. -/
theorem unp_pack {m : Ms} (h : msB m = true) (hu : ∀ p ∈ m.y.pre, p.1 < 4294967296) : unpE (msEnc m) = 0 ∧ unpM (msEnc m) = m := by
  obtain ⟨hb, hc⟩ := ms_cases h
  have hl := msVal_len h
  have hk : 1 ≤ m.k ∧ m.k ≤ 255 := by
    rcases hc with ⟨e, _⟩ | ⟨e, _⟩ <;> omega
  have hd : decO (msEnc m) = some [(m.k, msVal m)] := by
    have := decO_enc1 (m.k, msVal m) hk.1 hk.2 (by simp only; omega) []
    rw [List.append_nil, decO_nil] at this
    exact this
  have hR : unpR (m.k, msVal m) = m ∧ unpE1 (m.k, msVal m) = 0 := by
    obtain ⟨k, n, b, hh, y⟩ := m
    simp only at *
    rcases hc with ⟨rfl, ⟨h1, h2⟩, ⟨h3, h4⟩, rfl⟩ | ⟨hk2, rfl, rfl, hy⟩
    · have hlen : (msVal ⟨1, n, b, hh, laZero⟩).length = 10 := by simp [msVal, numB_len]
      have hR : unpR (1, msVal ⟨1, n, b, hh, laZero⟩) = ⟨1, n, b, hh, laZero⟩ := by
        unfold unpR msVal
        simp only [if_true]
        rw [take_num, drop_num, take_num]
        have e6 : (numB n.toNat 2 ++ (numB b.toNat 4 ++ numB hh.toNat 4)).drop 6 = numB hh.toNat 4 := by
          rw [← List.append_assoc]
          exact List.drop_left' (by simp [numB_len])
        rw [e6, List.take_of_length_le (by rw [numB_len]; exact Nat.le_refl _)]
        rw [uint_num _ _ (by omega), uint_num _ _ (by omega), uint_num _ _ (by omega), Int.toNat_of_nonneg (by omega), Int.toNat_of_nonneg (by omega), Int.toNat_of_nonneg (by omega)]
      refine ⟨hR, ?_⟩
      unfold unpE1
      rw [if_pos rfl, hR, if_pos ⟨hlen, h⟩]
    · have hk1 : k ≠ 1 := by omega
      have hv : msVal ⟨k, 0, b, 0, y⟩ = numB b.toNat 4 ++ laEnc y := by unfold msVal; rw [if_neg hk1]
      rw [hv]
      have hR : unpR (k, numB b.toNat 4 ++ laEnc y) = ⟨k, 0, b, 0, y⟩ := by
        unfold unpR
        simp only
        rw [if_neg hk1, take_num, drop_num, uint_num _ _ (by omega), Int.toNat_of_nonneg (by omega), (ldec_yes ⟨⟨hy, hu⟩, rfl⟩).2]
      refine ⟨hR, ?_⟩
      unfold unpE1
      simp only
      rw [if_neg hk1, if_pos hk2, if_neg (by rw [List.length_append, numB_len]; omega), drop_num, laEnc_chk, if_neg (by simp), hR, if_pos h]
  unfold unpE unpM
  rw [hd]
  simp only
  rw [hR.2, if_pos rfl, hR.1]
  exact ⟨rfl, rfl⟩

set_option maxRecDepth 100000 in
set_option maxHeartbeats 3200000 in
theorem packs_any (w : World) : Calls Try.prog 5 #[] w fun e w' => e = .returned (.bool true) ∧ Below w.heap.size w w' := by
  have hb : msB ⟨1, 3, 1, 2, laZero⟩ = true := by simp [msB, wiB, emB, laZero]
  have P : ∀ W, Calls Try.prog 7 #[.agg #[.int .i64 1, .int .i64 3, .int .i64 1, .int .i64 2, .int .i64 0, .int .i64 0, .int .i64 0, .bool false, .slice none 0 0, .slice none 0 0]] W fun e w' => ∃ A c, e = .returned (.tuple #[.slice A 13 c, .int .i64 0]) ∧ w'.ownsRow W.heap.size 5 1 (.slice A 13 c) 13 (([1, 0, 10, 0, 3, 0, 0, 0, 1, 0, 0, 0, 2] : List UInt8).map u8v) ∧ Below W.heap.size W w' := fun W => by
    have := spack_any W _ ⟨1, 3, 1, 2, laZero⟩ ⟨none, 0, none, 0, rfl, (laZero_own W W.heap.size).at⟩
    have e1 : packB ⟨1, 3, 1, 2, laZero⟩ = [1, 0, 10, 0, 3, 0, 0, 0, 1, 0, 0, 0, 2] := by
      unfold packB
      rw [if_pos hb]
      rfl
    unfold PackPost at this
    rw [e1] at this
    unfold packE at this
    rw [if_pos hb] at this
    exact this
  replace P := Lib.hid P
  clear hb
  go_enter Try.func5, Try.ntmps5
  go_wp2_with fail
  (with_reducible refine (P.out _).mono ?_)
  rintro e w1 ⟨A, c, rfl, o, hb⟩
  have cv := conv_bytes w1 Try.underlying30 Try.underlying5 Try.underlying9 (n := 13) (cap := c) (own_rdp o).1 rfl
  go_wp2_with fail
  go_ret
  exact ⟨rfl, hb⟩

set_option maxRecDepth 100000 in
set_option maxHeartbeats 3200000 in
theorem own_any (w : World) (m : Ms) (A : Option Addr) (c : Nat) (B : Option Addr) (d : Nat) : Calls Try.prog 8 #[msV m A c B d] w fun e w' => e = .returned (msV m A c B d) ∧ Below w.heap.size w w' := by
  have S := ((St.start w).new' #[.int .i64 m.k, .int .i64 m.n, .int .i64 m.b, .int .i64 m.h, .int .i64 m.y.o, .int .i64 m.y.s, .int .i64 m.y.a, .bool m.y.ov, .slice A m.y.adj.length c, .slice B m.y.pre.length d] 27 w.heap.size _ rfl rfl).new' #[.int .i64 m.k, .int .i64 m.n, .int .i64 m.b, .int .i64 m.h, .int .i64 m.y.o, .int .i64 m.y.s, .int .i64 m.y.a, .bool m.y.ov, .slice A m.y.adj.length c, .slice B m.y.pre.length d] 34 (w.heap.size + 1) _ (by simp) rfl
  have r0 := S.c 0 0 rfl rfl
  have r1 := S.c 0 1 rfl rfl
  have r2 := S.c 0 2 rfl rfl
  have r3 := S.c 0 3 rfl rfl
  have r4 := S.c 0 4 rfl rfl
  have r5 := S.c 0 5 rfl rfl
  have r6 := S.c 0 6 rfl rfl
  have r7 := S.c 0 7 rfl rfl
  have r8 := S.c 0 8 rfl rfl
  have r9 := S.c 0 9 rfl rfl
  have hb := S.b
  go_enter Try.func8, Try.ntmps8
  go_wp2_with fail
  exact bodyPost_ret (v := msV m A c B d) (by simp [results, Try.results8, go_sem, r0, r1, r2, r3, r4, r5, r6, r7, r8, r9]) rfl ⟨rfl, hb⟩

set_option maxRecDepth 100000 in
set_option maxHeartbeats 3200000 in
theorem same_any (w : World) (v u : Value) (m : Ms) (hv : MsAt w v m) (hu : MsAt w u m) : Calls Try.prog 12 #[v, u] w fun e w' => e = .returned (.bool true) ∧ Below w.heap.size w w' := by
  obtain ⟨A, c, B, d, rfl, h1⟩ := hv
  obtain ⟨A', c', B', d', rfl, h2⟩ := hu
  have S := ((St.start w).new' #[.int .i64 m.k, .int .i64 m.n, .int .i64 m.b, .int .i64 m.h, .int .i64 m.y.o, .int .i64 m.y.s, .int .i64 m.y.a, .bool m.y.ov, .slice A m.y.adj.length c, .slice B m.y.pre.length d] 34 w.heap.size _ rfl rfl).new' #[.int .i64 m.k, .int .i64 m.n, .int .i64 m.b, .int .i64 m.h, .int .i64 m.y.o, .int .i64 m.y.s, .int .i64 m.y.a, .bool m.y.ov, .slice A' m.y.adj.length c', .slice B' m.y.pre.length d'] 27 (w.heap.size + 1) _ (by simp) rfl
  have EQ := fun W hb => equal_any W _ _ m.y m.y (h1.below hb) (h2.below hb)
  rw [show equB m.y m.y = true by simp [equB, sameB, conB]] at EQ
  replace EQ := Lib.hid EQ
  clear h1 h2
  have n1 : (m.k == m.k) = true := by simp
  have n2 : (m.n == m.n) = true := by simp
  have n3 : (m.b == m.b) = true := by simp
  have n4 : (m.h == m.h) = true := by simp
  have a0 := S.c 1 0 rfl rfl
  have a1 := S.c 1 1 rfl rfl
  have a2 := S.c 1 2 rfl rfl
  have a3 := S.c 1 3 rfl rfl
  have a4 := S.c 1 4 rfl rfl
  have a5 := S.c 1 5 rfl rfl
  have a6 := S.c 1 6 rfl rfl
  have a7 := S.c 1 7 rfl rfl
  have a8 := S.c 1 8 rfl rfl
  have a9 := S.c 1 9 rfl rfl
  have b0 := S.c 0 0 rfl rfl
  have b1 := S.c 0 1 rfl rfl
  have b2 := S.c 0 2 rfl rfl
  have b3 := S.c 0 3 rfl rfl
  have b4 := S.c 0 4 rfl rfl
  have b5 := S.c 0 5 rfl rfl
  have b6 := S.c 0 6 rfl rfl
  have b7 := S.c 0 7 rfl rfl
  have b8 := S.c 0 8 rfl rfl
  have b9 := S.c 0 9 rfl rfl
  go_enter Try.func12, Try.ntmps12
  go_wp2_with fail
  (with_reducible refine (EQ.out _ S.b).mono ?_)
  rintro e w1 ⟨rfl, hb⟩
  replace S := S.call hb
  go_wp2_with fail
  go_ret
  exact ⟨rfl, S.b⟩

set_option maxRecDepth 100000 in
set_option maxHeartbeats 6400000 in
theorem unpacks_law (w : World) (A : Option Addr) (n cap : Nat) (bs : List UInt8) (hr : Bs w A bs) (hn : bs.length = n) (hcap : n ≤ cap) (hm : cap ≤ maxLen) :
    Calls Try.prog 4 #[.slice A n cap] w fun e w' => e = .returned (.bool true) ∧ Below w.heap.size w w' := by
  have S := (St.start w).read hr
  have U := fun W h hn2 => sunpack_any A n cap bs W h hn hcap hm hn2
  have R := fun W h hn2 => runpack_any A n cap bs W h hn hcap hm hn2
  have hmx : n ≤ 9223372036854775807 := by unfold maxLen at hm; omega
  generalize unpE bs = E at *
  generalize unpM bs = M at *
  unfold UnpPost at U R
  replace U := Lib.hid U
  replace R := Lib.hid R
  replace hn := Lib.hid hn
  clear hr hm
  go_enter Try.func4, Try.ntmps4
  go_wp2_with fail
  (with_reducible refine (packs_any _).mono ?_)
  rintro e w1 ⟨rfl, hb⟩
  replace S := S.call hb
  clear hb
  by_cases h5 : 500 < n
  · go_wp2_with fail
    go_ret
    exact ⟨rfl, S.b⟩
  go_wp2_with fail
  (with_reducible refine (U.out _ (S.r 0 rfl) (by omega)).mono ?_)
  rintro e w2 ⟨v2, rfl, hown, hb⟩
  replace S := S.call hb
  clear hb U
  obtain ⟨A2, c2, B2, d2, rfl, hl⟩ := hown
  have h2 := hl.at.below (below_new' w2 (.cells #[.int .i64 M.k, .int .i64 M.n, .int .i64 M.b, .int .i64 M.h, .int .i64 M.y.o, .int .i64 M.y.s, .int .i64 M.y.a, .bool M.y.ov, .slice A2 M.y.adj.length c2, .slice B2 M.y.pre.length d2] 34))
  have hlt := S.b.size
  have S2 := S.new' #[.int .i64 M.k, .int .i64 M.n, .int .i64 M.b, .int .i64 M.h, .int .i64 M.y.o, .int .i64 M.y.s, .int .i64 M.y.a, .bool M.y.ov, .slice A2 M.y.adj.length c2, .slice B2 M.y.pre.length d2] 34 w2.heap.size _ rfl rfl
  clear S hl
  go_upto_region 6 with fail
  generalize w2.alloc _ = w3 at *
  generalize w2.heap.size = g2 at *
  go_wp2_with fail
  (with_reducible refine (R.out _ (S2.r 0 rfl) (by omega)).mono ?_)
  rintro e w4 ⟨v4, rfl, hown, hb⟩
  replace S2 := S2.call hb
  replace h2 := h2.below hb
  clear hb R
  obtain ⟨A4, c4, B4, d4, rfl, hl⟩ := hown
  have h4 := hl.at.below (below_new' w4 (.cells #[.int .i64 M.k, .int .i64 M.n, .int .i64 M.b, .int .i64 M.h, .int .i64 M.y.o, .int .i64 M.y.s, .int .i64 M.y.a, .bool M.y.ov, .slice A4 M.y.adj.length c4, .slice B4 M.y.pre.length d4] 27))
  replace h2 := h2.below (below_new' w4 (.cells #[.int .i64 M.k, .int .i64 M.n, .int .i64 M.b, .int .i64 M.h, .int .i64 M.y.o, .int .i64 M.y.s, .int .i64 M.y.a, .bool M.y.ov, .slice A4 M.y.adj.length c4, .slice B4 M.y.pre.length d4] 27))
  have S3 := S2.new' #[.int .i64 M.k, .int .i64 M.n, .int .i64 M.b, .int .i64 M.h, .int .i64 M.y.o, .int .i64 M.y.s, .int .i64 M.y.a, .bool M.y.ov, .slice A4 M.y.adj.length c4, .slice B4 M.y.pre.length d4] 27 w4.heap.size _ rfl rfl
  clear S2 hl
  go_upto_region 7 with fail
  generalize w4.alloc _ = w5 at *
  generalize w4.heap.size = g4 at *
  have SM : Calls Try.prog 12 #[.agg #[.int .i64 M.k, .int .i64 M.n, .int .i64 M.b, .int .i64 M.h, .int .i64 M.y.o, .int .i64 M.y.s, .int .i64 M.y.a, .bool M.y.ov, .slice A2 M.y.adj.length c2, .slice B2 M.y.pre.length d2], .agg #[.int .i64 M.k, .int .i64 M.n, .int .i64 M.b, .int .i64 M.h, .int .i64 M.y.o, .int .i64 M.y.s, .int .i64 M.y.a, .bool M.y.ov, .slice A4 M.y.adj.length c4, .slice B4 M.y.pre.length d4]] w5 fun e w' => e = .returned (.bool true) ∧ Below w5.heap.size w5 w' := same_any w5 _ _ M ⟨A2, c2, B2, d2, rfl, h2⟩ ⟨A4, c4, B4, d4, rfl, h4⟩
  replace SM := Lib.hid SM
  clear h2 h4
  have ne : (E == E) = true := by simp
  have a0 := S3.c 0 0 rfl rfl
  have a1 := S3.c 0 1 rfl rfl
  have a2 := S3.c 0 2 rfl rfl
  have a3 := S3.c 0 3 rfl rfl
  have a4 := S3.c 0 4 rfl rfl
  have a5 := S3.c 0 5 rfl rfl
  have a6 := S3.c 0 6 rfl rfl
  have a7 := S3.c 0 7 rfl rfl
  have a8 := S3.c 0 8 rfl rfl
  have a9 := S3.c 0 9 rfl rfl
  have b0 := S3.c 1 0 rfl rfl
  have b1 := S3.c 1 1 rfl rfl
  have b2 := S3.c 1 2 rfl rfl
  have b3 := S3.c 1 3 rfl rfl
  have b4 := S3.c 1 4 rfl rfl
  have b5 := S3.c 1 5 rfl rfl
  have b6 := S3.c 1 6 rfl rfl
  have b7 := S3.c 1 7 rfl rfl
  have b8 := S3.c 1 8 rfl rfl
  have b9 := S3.c 1 9 rfl rfl
  go_wp2_with fail
  (with_reducible refine (SM.out).mono ?_)
  rintro e w6 ⟨rfl, hb⟩
  replace S3 := S3.call hb
  go_wp2_with fail
  go_ret
  exact ⟨rfl, S3.b⟩

end Go.Proofs.Ytdepfgalaicpeaa
