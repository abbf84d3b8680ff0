/-
  The contracts of the law's own, back and size, of the reference's Same and Fits.
-/
import Derived.Test.YthegpmoddmnhoaaCodN
namespace Go.Proofs.Ythegpmoddmnhoaa
set_option linter.unusedVariables false
open Go.RowKit

theorem recT : ElemT Try.prog 25 56 (.agg #[.int .i64 0, .slice none 0 0]) 2 32 := ⟨Try.underlying25, by kernel_rfl, rfl, by omega⟩
theorem rrecT : ElemT Try.prog 22 43 (.agg #[.int .i64 0, .slice none 0 0]) 2 32 := ⟨Try.underlying22, by kernel_rfl, rfl, by omega⟩

theorem recV_take (l : List Rc) (k : Nat) (hk : k < l.length) : recV (l.take (k + 1)) = recV (l.take k) ++ [.int .i64 l[k].t, .slice l[k].A l[k].n l[k].c] := by
  rw [List.take_succ_eq_append_getElem hk, recV_append]; rfl

set_option maxHeartbeats 1600000 in
theorem own_any (A : Option Addr) (n cap : Nat) (l : List Rc) (w : World) (hr : Rd w A (recV l)) (hn : l.length = n) (hn2 : n ≤ 1000000) :
    Calls Try.prog 12 #[.slice A n cap] w fun e w' => ∃ v, e = .returned v ∧ w'.ownsRow w.heap.size 56 2 v n (recV l) ∧ Below w.heap.size w w' := by
  subst hn
  have S := (St.start w).read hr
  clear hr
  go_enter Try.func12, Try.ntmps12
  go_wp2_with fail
  go_loopw [3, 4] (fun v3 v4 wr => ∃ k : Nat, k ≤ l.length ∧ v4 = .int .i64 k ∧ wr.ownsRow w.heap.size 56 2 v3 k (recV (l.take k)) ∧ St w wr [] [(A, recV l)]) (fun _ v4 _ => l.length - (intOf v4).toNat)
  case atStart => exact ⟨0, by omega, rfl, World.ownsRow_nil _ _ _ _, S⟩
  case round =>
    clear S
    obtain ⟨k, hk, rfl, hown, S⟩ := hrel
    by_cases hkn : k < l.length
    · obtain ⟨b, off, rfl, c0, c1⟩ := rd_recs (S.r 0 rfl) hkn
      have htk := Lib.hid (recV_take l k hkn)
      generalize l[k] = r at c0 c1 htk
      obtain ⟨t, B, m, c, bs⟩ := r
      simp only at c0 c1 htk
      have hb1 := below_new' wr (.cells #[.int .i64 t, .slice B m c] 56)
      have hown1 := own_below hown hb1
      have rd0 := Rd.lit wr #[.int .i64 t, .slice B m c] 56
      have S1 := S.call hb1
      have hsz := S1.b.size
      clear hown
      go_wp2_with (at_builtin; refine wpList_app rfl recT (.tmp 11) (.tmp 16) rfl w.heap.size rfl hown1 (m := 1) rfl (by simp) rd0 (by simp [Value.oneCell']) (by simp only [maxLen]; omega) (by omega) hsz (k + 1) (recV (l.take (k + 1))) (by omega) htk.out.symm ?_; intro v3 w3 hown3 hbel3)
      replace S : St w w3 [] [(some ⟨b, off, none⟩, recV l)] := ⟨S1.b.trans hbel3, by simp, S.rd⟩
      go_roundw
      case rel => exact ⟨k + 1, by omega, by go_num, hown3, S⟩
      case measure => simp [intOf]; omega
    · obtain rfl : k = l.length := by omega
      rw [List.take_length] at hown
      go_wp2_with fail
      go_ret
      exact ⟨_, rfl, hown, S.b⟩

set_option maxHeartbeats 1600000 in
theorem back_any (A : Option Addr) (n cap : Nat) (l : List Rc) (w : World) (hr : Rd w A (recV l)) (hn : l.length = n) (hn2 : n ≤ 1000000) :
    Calls Try.prog 16 #[.slice A n cap] w fun e w' => ∃ v, e = .returned v ∧ w'.ownsRow w.heap.size 43 2 v n (recV l) ∧ Below w.heap.size w w' := by
  subst hn
  have S := (St.start w).read hr
  clear hr
  go_enter Try.func16, Try.ntmps16
  go_wp2_with fail
  go_loopw [3, 4] (fun v3 v4 wr => ∃ k : Nat, k ≤ l.length ∧ v4 = .int .i64 k ∧ wr.ownsRow w.heap.size 43 2 v3 k (recV (l.take k)) ∧ St w wr [] [(A, recV l)]) (fun _ v4 _ => l.length - (intOf v4).toNat)
  case atStart => exact ⟨0, by omega, rfl, World.ownsRow_nil _ _ _ _, S⟩
  case round =>
    clear S
    obtain ⟨k, hk, rfl, hown, S⟩ := hrel
    by_cases hkn : k < l.length
    · obtain ⟨b, off, rfl, c0, c1⟩ := rd_recs (S.r 0 rfl) hkn
      have htk := Lib.hid (recV_take l k hkn)
      generalize l[k] = r at c0 c1 htk
      obtain ⟨t, B, m, c, bs⟩ := r
      simp only at c0 c1 htk
      have hb1 := below_new' wr (.cells #[.int .i64 t, .slice B m c] 43)
      have hown1 := own_below hown hb1
      have rd0 := Rd.lit wr #[.int .i64 t, .slice B m c] 43
      have S1 := S.call hb1
      have hsz := S1.b.size
      clear hown
      go_wp2_with (at_builtin; refine wpList_app rfl rrecT (.tmp 11) (.tmp 16) rfl w.heap.size rfl hown1 (m := 1) rfl (by simp) rd0 (by simp [Value.oneCell']) (by simp only [maxLen]; omega) (by omega) hsz (k + 1) (recV (l.take (k + 1))) (by omega) htk.out.symm ?_; intro v3 w3 hown3 hbel3)
      replace S : St w w3 [] [(some ⟨b, off, none⟩, recV l)] := ⟨S1.b.trans hbel3, by simp, S.rd⟩
      go_roundw
      case rel => exact ⟨k + 1, by omega, by go_num, hown3, S⟩
      case measure => simp [intOf]; omega
    · obtain rfl : k = l.length := by omega
      rw [List.take_length] at hown
      go_wp2_with fail
      go_ret
      exact ⟨_, rfl, hown, S.b⟩

set_option maxHeartbeats 1600000 in
theorem size_any (A : Option Addr) (n cap : Nat) (l : List Rc) (w : World) (hr : Rd w A (recV l)) (hn : l.length = n) (hn2 : n ≤ 1000000) :
    Calls Try.prog 11 #[.slice A n cap] w fun e w' => (∃ z, e = .returned (.int .i64 z)) ∧ w = w' := by
  subst hn
  go_enter Try.func11, Try.ntmps11
  go_wp2_with fail
  go_loop [3, 4] (fun v3 v4 => ∃ (k : Nat) (z : Int), k ≤ l.length ∧ v4 = .int .i64 k ∧ v3 = .int .i64 z) (fun _ v4 => l.length - (intOf v4).toNat)
  case atStart => exact ⟨0, 0, by omega, rfl, rfl⟩
  case round =>
    obtain ⟨k, z, hk, rfl, rfl⟩ := hrel
    by_cases hkn : k < l.length
    · obtain ⟨b, off, rfl, c0, c1⟩ := rd_recs hr hkn
      generalize l[k] = r at c0 c1
      obtain ⟨t, B, m, c, bs⟩ := r
      simp only at c0 c1
      go_wp2_with fail
      go_round
      case rel => exact ⟨k + 1, _, by omega, by go_num, rfl⟩
      case measure => simp [intOf]; omega
    · obtain rfl : k = l.length := by omega
      go_wp2_with fail
      go_ret
      exact ⟨⟨_, rfl⟩, rfl⟩

set_option maxHeartbeats 1600000 in
theorem fits_any (m k : Nat) (w : World) (hm : m < 18446744073709551616) (hk : k ≤ 8) :
    Calls Try.prog 21 #[.int .u64 m, .int .i64 k] w fun e w' => e = .returned (.bool (decide (m < 256 ^ k))) ∧ w = w' := by
  go_enter Try.func21, Try.ntmps21
  go_wp2_with fail
  go_loop [0, 5] (fun v0 v5 => ∃ j : Nat, j ≤ k ∧ v5 = .int .i64 j ∧ v0 = .int .u64 ((m / 256 ^ j : Nat) : Int)) (fun _ v5 => k - (intOf v5).toNat)
  case atStart => exact ⟨0, by omega, rfl, by simp⟩
  case round =>
    obtain ⟨j, hj, rfl, rfl⟩ := hrel
    have hlt : m / 256 ^ j < 18446744073709551616 := Nat.lt_of_le_of_lt (Nat.div_le_self _ _) hm
    by_cases hjk : j < k
    · have hdv : Hid (((m / 256 ^ j : Nat) : Int) / 256 = ((m / 256 ^ (j + 1) : Nat) : Int)) := by
        show _ = _
        rw [show (256 : Int) = ((256 : Nat) : Int) from rfl, ← Int.natCast_ediv, Nat.div_div_eq_div_mul, Nat.pow_succ]
      generalize (m / 256 ^ j) = q at hdv hlt ⊢
      go_wp2_with fail
      go_round
      case rel => exact ⟨j + 1, by omega, by go_num, by rw [hdv.out]⟩
      case measure => simp [intOf]; omega
    · obtain rfl : j = k := by omega
      have hq : (decide (m < 256 ^ j)) = (((m / 256 ^ j : Nat) : Int) == 0) := by
        rw [Bool.eq_iff_iff, decide_eq_true_iff, beq_iff_eq]
        have hp := Nat.pow_pos (n := j) (show 0 < 256 by omega)
        rw [show (((m / 256 ^ j : Nat) : Int) = 0 ↔ m / 256 ^ j = 0) by omega, Nat.div_eq_zero_iff]
        omega
      replace hq := Lib.hid hq
      generalize (m / 256 ^ j) = q at hlt hq ⊢
      go_wp2_with fail
      go_ret
      exact ⟨ret_bool hq.out.symm, rfl⟩

set_option maxHeartbeats 1600000 in
theorem rsame_any (A B : Option Addr) (n cap n2 cap2 : Nat) (l m : List Rc) (w : World) (ha : Rd w A (recV l)) (hb : Rd w B (recV m)) (hoa : ∀ r ∈ l, RcOk w r) (hob : ∀ r ∈ m, RcOk w r)
    (hn : l.length = n) (hm : m.length = n2) (hn2 : n ≤ 1000000) (he : l.map dat = m.map dat) :
    Calls Try.prog 15 #[.slice A n cap, .slice B n2 cap2] w fun e w' => e = .returned (.bool true) ∧ Below w.heap.size w w' := by
  have hlen : l.length = m.length := by have := congrArg List.length he; simpa using this
  subst hn
  obtain rfl : l.length = n2 := hlen.trans hm
  replace hm := Lib.hid hm
  replace he := Lib.hid he
  replace hoa := Lib.hid hoa
  replace hob := Lib.hid hob
  have S := ((St.start w).read ha).read hb
  clear ha hb hlen
  go_enter Try.func15, Try.ntmps15
  go_wp2_with fail
  go_loopw [5] (fun v5 wr => ∃ k : Nat, k ≤ l.length ∧ v5 = .int .i64 k ∧ St w wr [] [(B, recV m), (A, recV l)]) (fun v5 _ => l.length - (intOf v5).toNat)
  case atStart => exact ⟨0, by omega, rfl, S⟩
  case round =>
    clear S
    obtain ⟨k, hk, rfl, S⟩ := hrel
    by_cases hkn : k < l.length
    · have hkm : k < m.length := by rw [hm.out]; exact hkn
      have hd : dat l[k] = dat m[k] := by
        have h1 := List.getElem_map dat (l := l) (i := k) (h := by simpa using hkn)
        have h2 := List.getElem_map dat (l := m) (i := k) (h := by simpa using hkm)
        rw [← h1, ← h2]
        simp only [he.out]
      obtain ⟨b, off, rfl, c0, c1⟩ := rd_recs (S.r 1 rfl) hkn
      obtain ⟨b2, off2, rfl, e0, e1⟩ := rd_recs (S.r 0 rfl) hkm
      have k1 := (hoa.out l[k] (List.getElem_mem hkn)).below S.b
      have k2 := (hob.out m[k] (List.getElem_mem hkm)).below S.b
      generalize l[k] = r at c0 c1 hd k1
      generalize m[k] = r2 at e0 e1 hd k2
      obtain ⟨t, C, q, c, bs⟩ := r
      obtain ⟨t2, C2, q2, c2, bs2⟩ := r2
      obtain ⟨rfl, rfl⟩ : t = t2 ∧ bs = bs2 := by simpa [dat] using hd
      have cv := fun i => conv_bytes (P := Try.prog) (wr.drewN i) (src := 27) (dst := 9) (e := 5) Try.underlying27 Try.underlying5 Try.underlying9 (cap := c) (k1.rd.drewN i) k1.len
      have cv2 := fun i => conv_bytes (P := Try.prog) (wr.drewN i) (src := 27) (dst := 9) (e := 5) Try.underlying27 Try.underlying5 Try.underlying9 (cap := c2) (k2.rd.drewN i) k2.len
      simp only at c0 c1 e0 e1 cv cv2
      have i1 : (0 : Int) ≤ (k : Int) := by omega
      have i2 : (k : Int) < (l.length : Int) := by omega
      clear hd k1 k2
      go_wp2_with fail
      go_quiet (fail)
      replace S := S.drewN nq
      clear c0 c1 e0 e1 cv cv2
      go_wp2_with fail
      go_roundw
      case rel => exact ⟨k + 1, by omega, by go_num, S⟩
      case measure => simp [intOf]; omega
    · obtain rfl : k = l.length := by omega
      go_wp2_with fail
      go_ret
      exact ⟨rfl, S.b⟩

end Go.Proofs.Ythegpmoddmnhoaa
