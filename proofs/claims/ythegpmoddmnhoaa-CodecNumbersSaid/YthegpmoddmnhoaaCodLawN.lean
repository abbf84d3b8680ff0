/-
  The walk of the statement CodecNumbers.
-/
import Derived.Test.YthegpmoddmnhoaaCodAw
import Derived.Test.YthegpmoddmnhoaaCodRN
import Derived.Test.YthegpmoddmnhoaaCodSm
import Derived.Deep.RegionWith
import Derived.Deep.DrawnRows
import Derived.Laws.Concat
namespace Go.Proofs.Ythegpmoddmnhoaa
set_option linter.unusedVariables false
open Go.RowKit
attribute [local go_sem ↓] Go.wp_at_zero Go.wp_at_succ

set_option maxHeartbeats 40000000 in
set_option maxRecDepth 100000 in
theorem numbers_law (w : World) (A : Option Addr) (n cap : Nat) (bs : List UInt8) (hr : Bs w A bs) (hn : bs.length = n) (hm : n ≤ maxLen) (z : Int) (hz : (Lit.int .u64 z).wf = true) (k : Int) (hk : (Lit.int .i64 k).wf = true) :
    Calls Try.prog 8 #[.slice A n cap, .int .u64 z, .int .i64 k] w fun e w' => e = .returned (.bool true) ∧ Below w.heap.size w w' := by
  unfold maxLen at hm
  obtain ⟨m, rfl, hmz⟩ : ∃ m : Nat, z = m ∧ m < 18446744073709551616 := by
    have h0 : 0 ≤ z ∧ z < 18446744073709551616 := by
      have hz' : IntKind.u64.min ≤ z ∧ z ≤ IntKind.u64.max := by simpa [Lit.wf] using hz
      have a1 : IntKind.u64.min = 0 := by decide
      have a2 : IntKind.u64.max = 18446744073709551615 := by decide
      omega
    exact ⟨z.toNat, by omega, by omega⟩
  clear hz hk
  have S := (St.start w).read hr
  replace hn := Lib.hid hn
  clear hr
  go_enter Try.func8, Try.ntmps8
  go_wp2_with fail
  (with_reducible refine (awake_any _).mono ?_)
  rintro e w1 ⟨rfl, hb⟩
  replace S := S.call hb
  clear hb
  by_cases hl : 100 < n
  · have hl' : (100 : Int) < n := by omega
    go_wp2_with fail
    go_ret
    exact ⟨rfl, S.b⟩
  have hl' : ¬ (100 : Int) < n := by omega
  have hown0 := own_empty w1 5 1
  have hb0 := below_new' w1 (.cells #[] 5)
  have S1 := S.call hb0
  have hsz := hb0.size
  go_wp2_with (at_builtin; refine wpList_app rfl bytesT (.tmp 17) (.tmp 18) rfl w1.heap.size rfl hown0 (m := n) rfl (by simp [hn.out]) (S1.r 0 rfl) (u8v_one _) (by simp only [maxLen]; omega) (by omega) hsz n (bs.map u8v) (by omega) (by simp) ?_; intro v2 w2 hown hbel; obtain ⟨A2, c2, rfl, rd2, hc2, hc2m⟩ := own_rd hown)
  replace S := S.call (hb0.trans hbel)
  have T := (St.start w2).read rd2
  clear S1 hb0 hbel hown0 hown rd2
  have K := append_any A2 n c2 bs m k w2 (T.r 0 rfl) hn.out (by omega) hmz
  by_cases h1 : k < 1 ∨ 8 < k
  · have e1 : auE m k = 1 := by unfold auE; rw [if_pos h1]
    have e2 : auR bs m k = [] := by unfold auR; rw [e1]; rfl
    rw [e1, e2] at K
    replace K := Lib.hid K
    clear e1 e2
    go_wp2_with fail
    (with_reducible refine K.out.mono ?_)
    rintro e w3 ⟨v3, rfl, hown3, hb⟩
    replace S := S.call hb
    replace T := T.call hb
    obtain ⟨A3, c3, rfl, rd3, _, _⟩ := own_rd hown3
    have cv := conv_bytes (P := Try.prog) w3 (src := 27) (dst := 9) (e := 5) Try.underlying27 Try.underlying5 Try.underlying9 (cap := c2) (T.r 0 rfl) hn.out
    have cv2 := conv_bytes (P := Try.prog) w3 (src := 27) (dst := 9) (e := 5) Try.underlying27 Try.underlying5 Try.underlying9 (cap := cap) (S.r 0 rfl) hn.out
    clear hb K hown3 rd3
    by_cases h2 : k < 1
    · clear h1
      go_wp2_with fail
      go_ret
      exact ⟨rfl, S.b⟩
    · have h3 : 8 < k := by omega
      clear h1
      go_wp2_with fail
      go_ret
      exact ⟨rfl, S.b⟩
  obtain ⟨k, rfl⟩ : ∃ j : Nat, k = j := ⟨k.toNat, by omega⟩
  have hk1 : 1 ≤ k := by omega
  have hk8 : k ≤ 8 := by omega
  have F := fun W => fits_any m k W hmz hk8
  by_cases hf : m < 256 ^ k
  · have e1 : auE m k = 0 := by unfold auE; rw [if_neg (by omega), Int.toNat_natCast, if_pos hf]
    have e2 : auR bs m k = bs ++ numB m k := by unfold auR; rw [e1, if_pos rfl, Int.toNat_natCast]
    rw [e1, e2] at K
    have ed : decide (m < 256 ^ k) = true := by simpa using hf
    rw [ed] at F
    have hln : Hid ((bs ++ numB m k).length = n + k) := by show _ = _; rw [List.length_append, numB_len, hn.out]
    rw [hln.out] at K
    have hui : Hid (uiE (numB m k) = 0 ∧ uiN (numB m k) = m) := by
      show _ ∧ _
      unfold uiE uiN
      rw [numB_len, if_pos ⟨hk1, hk8⟩, if_pos ⟨hk1, hk8⟩]
      exact ⟨rfl, uint_num m k hf⟩
    have hdr : Hid ((bs ++ numB m k).drop n = numB m k) := by show _ = _; rw [← hn.out, List.drop_left]
    replace K := Lib.hid K
    replace F := Lib.hid F
    have NB := Lib.hid (fun W => number_any m k W hmz hk8)
    clear e1 e2 ed hf h1
    go_wp2_with fail
    (with_reducible refine K.out.mono ?_)
    rintro e w3 ⟨v3, rfl, hown3, hb⟩
    replace S := S.call hb
    replace T := T.call hb
    have cv := conv_bytes (P := Try.prog) w3 (src := 27) (dst := 9) (e := 5) Try.underlying27 Try.underlying5 Try.underlying9 (cap := c2) (T.r 0 rfl) hn.out
    have cv2 := conv_bytes (P := Try.prog) w3 (src := 27) (dst := 9) (e := 5) Try.underlying27 Try.underlying5 Try.underlying9 (cap := cap) (S.r 0 rfl) hn.out
    clear hb K
    obtain ⟨A3, c3, rfl, rd3, hc3, _⟩ := own_rd hown3
    go_wp2_with fail
    (with_reducible refine (F.out _).mono ?_)
    rintro e w3' ⟨rfl, rfl⟩
    clear F cv cv2
    go_wp2_with fail
    have cw1 := conv_bytes (P := Try.prog) w3.drew (src := 27) (dst := 9) (e := 5) Try.underlying27 Try.underlying5 Try.underlying9 (cap := c3) rd3.drew hln.out
    have cw2 := conv_bytes (P := Try.prog) w3.drew (src := 27) (dst := 9) (e := 5) Try.underlying27 Try.underlying5 Try.underlying9 (cap := cap) (S.r 0 rfl).drew hn.out
    have rd3' : Rd w3.drew A3 _ := rd3.drew
    have hcc : ∀ W, (Op.stringOp .add ⟨bs.toArray⟩ ⟨(numB m k).toArray⟩).run Try.prog W = .ok (.string ⟨(bs ++ numB m k).toArray⟩) W := fun W => run_string_add_lists W _ _ (by rw [hn.out]; omega) (by rw [numB_len]; omega)
    go_region_with (go_at_call 22; refine (NB.out _).mono ?_; rintro e w4 ⟨v4, rfl, hown4, hb4⟩; obtain ⟨A4, c4, rfl, rd4, hc4, _⟩ := own_rd hown4; have S4 := S.drew.call hb4; have cx1 := conv_bytes (P := Try.prog) w4 (src := 27) (dst := 9) (e := 5) Try.underlying27 Try.underlying5 Try.underlying9 (cap := c3) (rd3'.below hb4) hln.out; have cx2 := conv_bytes (P := Try.prog) w4 (src := 27) (dst := 9) (e := 5) Try.underlying27 Try.underlying5 Try.underlying9 (cap := cap) (S4.r 0 rfl) hn.out; have cx3 := conv_bytes (P := Try.prog) w4 (src := 27) (dst := 9) (e := 5) Try.underlying27 Try.underlying5 Try.underlying9 (cap := c4) rd4 (numB_len m k))
    all_goals
      have rd5 := (rd3'.below hb4).sub n c3 (by rw [List.length_map, hln.out]; omega)
      rw [← List.map_drop, hdr.out] at rd5
      have hs := fun W => run_from bytesT A3 (n + k) c3 n (by omega) W (P := Try.prog)
      rw [Nat.add_sub_cancel_left] at hs
      generalize subA A3 n c3 = A5 at rd5 hs
      have U := uint_any A5 k (c3 - n) (numB m k) w4 rd5 (numB_len m k) (by omega)
      rw [hui.out.1, hui.out.2] at U
      clear cx1 cx2 cx3 hcc hb4 rd4 rd3' rd3 hown4 hown3 NB
      replace U := Lib.hid U
      have hnk : (n : Int) ≤ (n : Int) + k := by omega
      go_wp2_with fail
      (with_reducible refine U.out.mono ?_)
      rintro e w5 ⟨rfl, rfl⟩
      clear hs
      go_wp2_with fail
      go_ret
      exact ⟨rfl, S4.b⟩
  · have e1 : auE m k = 2 := by unfold auE; rw [if_neg (by omega), Int.toNat_natCast, if_neg hf]
    have e2 : auR bs m k = [] := by unfold auR; rw [e1]; rfl
    rw [e1, e2] at K
    have ed : decide (m < 256 ^ k) = false := by simpa using hf
    rw [ed] at F
    replace K := Lib.hid K
    replace F := Lib.hid F
    clear e1 e2 ed hf h1
    go_wp2_with fail
    (with_reducible refine K.out.mono ?_)
    rintro e w3 ⟨v3, rfl, hown3, hb⟩
    replace S := S.call hb
    replace T := T.call hb
    obtain ⟨A3, c3, rfl, rd3, _, _⟩ := own_rd hown3
    have cv := conv_bytes (P := Try.prog) w3 (src := 27) (dst := 9) (e := 5) Try.underlying27 Try.underlying5 Try.underlying9 (cap := c2) (T.r 0 rfl) hn.out
    have cv2 := conv_bytes (P := Try.prog) w3 (src := 27) (dst := 9) (e := 5) Try.underlying27 Try.underlying5 Try.underlying9 (cap := cap) (S.r 0 rfl) hn.out
    clear hb K hown3 rd3
    go_wp2_with fail
    (with_reducible refine (F.out _).mono ?_)
    rintro e w3' ⟨rfl, rfl⟩
    go_wp2_with fail
    go_ret
    exact ⟨rfl, S.b⟩

end Go.Proofs.Ythegpmoddmnhoaa
