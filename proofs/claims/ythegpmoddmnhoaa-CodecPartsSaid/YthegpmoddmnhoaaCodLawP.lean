/-
  The walk of the statement CodecParts.
-/
import Derived.Test.YthegpmoddmnhoaaCodAw
import Derived.Test.YthegpmoddmnhoaaCodSm
import Derived.Test.YthegpmoddmnhoaaCodLawT
import Derived.Deep.RegionHeld3
import Derived.Deep.DrawnRows
namespace Go.Proofs.Ythegpmoddmnhoaa
set_option linter.unusedVariables false
open Go.RowKit
attribute [local go_sem ↓] Go.wp_at_zero Go.wp_at_succ

def pos (l : List Rec) (n : Nat) : Nat := (encAll (l.take n)).length
theorem pos_zero (l : List Rec) : pos l 0 = 0 := rfl
theorem pos_succ (l : List Rec) (n : Nat) (h : n < l.length) : pos l (n + 1) = pos l n + 3 + l[n].2.length := by
  unfold pos
  rw [List.take_succ_eq_append_getElem h, encAll_append, List.length_append]
  simp [encAll, enc1_len]; omega
theorem pos_full (l : List Rec) : pos l l.length = (encAll l).length := by unfold pos; rw [List.take_length]
theorem encE_take (l : List Rec) (n : Nat) (h : encE l = 0) : encE (l.take n) = 0 := by
  induction l generalizing n with
  | nil => simp [encE]
  | cons r l ih =>
    cases n with
    | zero => rfl
    | succ n =>
      rw [List.take_succ_cons, encE]
      rw [encE] at h
      split at h
      · omega
      · split at h
        · omega
        · rw [if_neg ‹_›, if_neg ‹_›]; exact ih n h
theorem cut_good (l : List Rec) (hE : encE l = 0) (n : Nat) : decE ((encAll l).take (pos l n)) = 0 ∧ decL ((encAll l).take (pos l n)) = l.take n := by
  have e : (encAll l).take (pos l n) = encAll (l.take n) := by
    conv => lhs; rw [← List.take_append_drop n l, encAll_append]
    rw [List.take_append_drop n l]
    unfold pos
    rw [List.take_left]
  rw [e]
  unfold decE decL
  rw [decO_full _ (encE_take l n hE)]
  exact ⟨rfl, rfl⟩
theorem cut_bad (l : List Rec) (hE : encE l = 0) (n k : Nat) (hn : n < l.length) (h1 : pos l n < k) (h2 : k < pos l (n + 1)) : decE ((encAll l).take k) = 4 ∧ decL ((encAll l).take k) = [] := by
  have hm := encE_mem l hE l[n] (List.getElem_mem hn)
  have hp := pos_succ l n hn
  rw [encAll_cut l n k hn (by show pos l n ≤ k; omega) (by show k ≤ pos l (n + 1); omega)]
  have hd := decO_enc (l.take n) (encE_take l n hE) ((enc1 l[n]).take (k - (encAll (l.take n)).length))
  rw [decO_part l[n] hm.1 hm.2.1 hm.2.2 _ (by show 0 < k - pos l n; omega) (by show k - pos l n < _; omega)] at hd
  unfold decE decL
  rw [hd]
  exact ⟨rfl, rfl⟩
theorem encE_both (a b : List Rec) (h1 : encE a = 0) (h2 : encE b = 0) : encE (a ++ b) = 0 := by rw [encE_append a b h1, h2]

set_option maxHeartbeats 8000000 in
set_option maxRecDepth 100000 in
theorem parts_law (w : World) (A : Option Addr) (n cap : Nat) (l : List Rc) (hr : Rd w A (recV l)) (hn : l.length = n) (hnc : n ≤ cap) (hm : cap ≤ maxLen) (hok : ∀ r ∈ l, RcOk w r)
    (B : Option Addr) (n2 cap2 : Nat) (l2 : List Rc) (hr2 : Rd w B (recV l2)) (hn2 : l2.length = n2) (hnc2 : n2 ≤ cap2) (hm2 : cap2 ≤ maxLen) (hok2 : ∀ r ∈ l2, RcOk w r) (z : Int) (hz : (Lit.int .u16 z).wf = true) :
    Calls Try.prog 6 #[.slice A n cap, .slice B n2 cap2, .int .u16 z] w fun e w' => e = .returned (.bool true) ∧ Below w.heap.size w w' := by
  unfold maxLen at hm hm2
  obtain ⟨c0, rfl, hc0⟩ : ∃ m : Nat, z = m ∧ m < 65536 := by
    have h0 : 0 ≤ z ∧ z < 65536 := by
      have hz' : IntKind.u16.min ≤ z ∧ z ≤ IntKind.u16.max := by simpa [Lit.wf] using hz
      have a1 : IntKind.u16.min = 0 := by decide
      have a2 : IntKind.u16.max = 65535 := by decide
      omega
    exact ⟨z.toNat, by omega, by omega⟩
  clear hz
  have S := ((St.start w).read hr).read hr2
  replace hok : Hid (∀ W', Below w.heap.size w W' → ∀ r ∈ l, RcOk W' r) := fun W' hb r hr => (hok r hr).below hb
  replace hok2 : Hid (∀ W', Below w.heap.size w W' → ∀ r ∈ l2, RcOk W' r) := fun W' hb r hr => (hok2 r hr).below hb
  replace hn := Lib.hid hn
  replace hn2 := Lib.hid hn2
  clear hr hr2
  go_enter Try.func6, Try.ntmps6
  go_wp2_with fail
  (with_reducible refine (awake_any _).mono ?_)
  rintro e w1 ⟨rfl, hb⟩
  replace S := S.call hb
  clear hb
  by_cases hl : 20 < n
  · have hl' : (20 : Int) < n := by omega
    go_wp2_with fail
    go_ret
    exact ⟨rfl, S.b⟩
  have hl' : ¬ (20 : Int) < n := by omega
  by_cases hl2 : 20 < n2
  · have hl2' : (20 : Int) < n2 := by omega
    go_wp2_with fail
    go_ret
    exact ⟨rfl, S.b⟩
  have hl2' : ¬ (20 : Int) < n2 := by omega
  go_wp2_with fail
  (with_reducible refine (size_any A n cap l _ (S.r 1 rfl) hn.out (by omega)).mono ?_)
  rintro e w1' ⟨⟨z1, rfl⟩, rfl⟩
  go_wp2_with fail
  (with_reducible refine (size_any B n2 cap2 l2 _ (S.r 0 rfl) hn2.out (by omega)).mono ?_)
  rintro e w1' ⟨⟨z2, rfl⟩, rfl⟩
  by_cases hz : 2000 < wrap64 (z1 + z2)
  · go_wp2_with fail
    go_ret
    exact ⟨rfl, S.b⟩
  go_wp2_with fail
  clear hz
  (with_reducible refine (own_any A n cap l _ (S.r 1 rfl) hn.out (by omega)).mono ?_)
  rintro e w2 ⟨v, rfl, hown, hb⟩
  replace S := S.call hb
  obtain ⟨A1, c1, rfl, rd1, _, _⟩ := own_rd hown
  clear hb hown
  have K1 := cencode_any A1 n c1 l w2 rd1 (hok.out _ S.b) hn.out (by omega)
  obtain ⟨E1, hE1⟩ : ∃ x, encE (l.map dat) = x := ⟨_, rfl⟩
  obtain ⟨R1, hR1⟩ : ∃ x, encR (l.map dat) = x := ⟨_, rfl⟩
  obtain ⟨m1, hm1⟩ : ∃ m, R1.length = m := ⟨_, rfl⟩
  have hml : m1 ≤ 65538 * 20 := by
    rw [← hm1, ← hR1]; exact encR_len _ _ (by rw [List.length_map, hn.out]; omega)
  have hR1' : Hid (E1 = 0 → R1 = encAll (l.map dat)) := fun h => by rw [← hR1]; unfold encR; rw [hE1, if_pos h]
  rw [hE1, hR1, hm1] at K1
  replace K1 := Lib.hid K1
  replace hm1 := Lib.hid hm1
  replace hE1 := Lib.hid hE1
  clear hR1 rd1
  go_wp2_with fail
  (with_reducible refine K1.out.mono ?_)
  rintro e w3 ⟨v3, rfl, hown3, hb⟩
  replace S := S.call hb
  obtain ⟨A3, c3, rfl, rd3, hc3, hc3m⟩ := own_rd hown3
  have T3 := (St.start w3).read rd3
  clear hb K1 hown3 rd3
  go_wp2_with fail
  (with_reducible refine (own_any B n2 cap2 l2 _ (S.r 0 rfl) hn2.out (by omega)).mono ?_)
  rintro e w4 ⟨v, rfl, hown, hb⟩
  replace S := S.call hb
  replace T3 := T3.call hb
  obtain ⟨A2, c2, rfl, rd1, _, _⟩ := own_rd hown
  clear hb hown
  have K1 := cencode_any A2 n2 c2 l2 w4 rd1 (hok2.out _ S.b) hn2.out (by omega)
  obtain ⟨E2, hE2⟩ : ∃ x, encE (l2.map dat) = x := ⟨_, rfl⟩
  obtain ⟨R2, hR2⟩ : ∃ x, encR (l2.map dat) = x := ⟨_, rfl⟩
  obtain ⟨m2, hm2'⟩ : ∃ m, R2.length = m := ⟨_, rfl⟩
  have hml2 : m2 ≤ 65538 * 20 := by
    rw [← hm2', ← hR2]; exact encR_len _ _ (by rw [List.length_map, hn2.out]; omega)
  have hR2' : Hid (E2 = 0 → R2 = encAll (l2.map dat)) := fun h => by rw [← hR2]; unfold encR; rw [hE2, if_pos h]
  rw [hE2, hR2, hm2'] at K1
  replace K1 := Lib.hid K1
  replace hm2' := Lib.hid hm2'
  replace hE2 := Lib.hid hE2
  clear hR2 rd1
  go_wp2_with fail
  (with_reducible refine K1.out.mono ?_)
  rintro e w5 ⟨v5, rfl, hown5, hb⟩
  replace S := S.call hb
  replace T3 := T3.call hb
  obtain ⟨A5, c5, rfl, rd5, hc5, hc5m⟩ := own_rd hown5
  have T5 := (St.start w5).read rd5
  clear hb K1 hown5 rd5
  by_cases hz1 : E1 = 0
  case' neg =>
    have hz1' : (E1 == 0) = false := by simpa using hz1
    go_wp2_with fail
    go_ret
    exact ⟨rfl, S.b⟩
  by_cases hz2 : E2 = 0
  case' neg =>
    have hz2' : (E2 == 0) = false := by simpa using hz2
    subst hz1
    go_wp2_with fail
    go_ret
    exact ⟨rfl, S.b⟩
  subst hz1 hz2
  obtain rfl := hR1'.out rfl
  obtain rfl := hR2'.out rfl
  clear hR1' hR2'
  have hall : Hid (decE (encAll (l.map dat) ++ encAll (l2.map dat)) = 0 ∧ decL (encAll (l.map dat) ++ encAll (l2.map dat)) = l.map dat ++ l2.map dat) := by
    have hd := decO_full _ (encE_both _ _ hE1.out hE2.out)
    rw [encAll_append] at hd
    show _ ∧ _
    unfold decE decL
    rw [hd]
    exact ⟨rfl, rfl⟩
  have hown0 := own_empty w5 5 1
  have hb0 := below_new' w5 (.cells #[] 5)
  have hsz := hb0.size
  have rdx := (T3.call hb0).r 0 rfl
  go_wp2_with (first
    | (at_builtin; refine wpList_app rfl bytesT (.tmp 55) (.tmp 56) rfl w5.heap.size rfl hown0 (m := m1) rfl (by simp [hm1.out]) rdx (u8v_one _) (by simp only [maxLen]; omega) (by omega) hsz m1 ((encAll (l.map dat)).map u8v) (by omega) (by simp) ?_; intro v6 w6 hown6 hbel6; have hb6 := hb0.trans hbel6; have rdy := (T5.call hb6).r 0 rfl; have hsz6 := hb6.size)
    | (at_builtin; refine wpList_app rfl bytesT (.tmp 57) (.tmp 58) rfl w5.heap.size rfl hown6 (m := m2) rfl (by simp [hm2'.out]) rdy (u8v_one _) (by simp only [maxLen]; omega) (by omega) hsz6 (m1 + m2) ((encAll (l.map dat) ++ encAll (l2.map dat)).map u8v) (by omega) (by simp) ?_; intro v7 w7 hown7 hbel7; obtain ⟨A7, c7, rfl, rd7, hc7, hc7m⟩ := own_rd hown7))
  have hb7 := hb6.trans hbel7
  replace S := S.call hb7
  replace T3 := T3.call hb7
  have K2 := cdecode_any A7 (m1 + m2) c7 (encAll (l.map dat) ++ encAll (l2.map dat)) w7 rd7 (by rw [List.length_append, hm1.out, hm2'.out]) hc7 hc7m (by omega)
  unfold DecPost at K2
  rw [hall.out.1, hall.out.2] at K2
  replace K2 := Lib.hid K2
  clear hall hown0 hb0 hsz rdx hown6 hbel6 hb6 rdy hsz6 hown7 hbel7 hb7 rd7 T5 hc7 hc7m
  (with_reducible refine K2.out.mono ?_)
  rintro e w8 ⟨v8, rs8, rfl, hown8, hrs8, hdat8, hb⟩
  replace S := S.call hb
  replace T3 := T3.call hb
  clear hb K2
  have hrl : rs8.length = n + n2 := by
    have := congrArg List.length hdat8
    rw [List.length_map, List.length_append, List.length_map, List.length_map] at this
    rw [this, hn.out, hn2.out]
  obtain ⟨A8, c8, rfl, rd8, _, _⟩ := own_rd hown8
  rw [hrl] at hown8 ⊢
  replace hrs8 : Hid (∀ W', Below w8.heap.size w8 W' → ∀ r ∈ rs8, RcOk W' r) := fun W' hb r hr => (hrs8 r hr).ok.below hb
  replace hdat8 : Hid (rs8.map dat = (l ++ l2).map dat) := by show _ = _; rw [hdat8, List.map_append]
  replace hrl := Lib.hid hrl
  have T8 := (St.start w8).read rd8
  clear hown8 rd8
  go_wp2_with fail
  (with_reducible refine (back_any A8 (n + n2) c8 rs8 _ (T8.r 0 rfl) hrl.out (by omega)).mono ?_)
  rintro e w9 ⟨v9, rfl, hown9, hb⟩
  replace S := S.call hb
  replace T3 := T3.call hb
  replace T8 := T8.call hb
  obtain ⟨A9, c9, rfl, rd9, _, _⟩ := own_rd hown9
  have T9 := (St.start w9).read rd9
  clear hb hown9 rd9
  have hown0 := own_empty w9 43 2
  have hb0 := below_new' w9 (.cells #[] 43)
  have hsz := hb0.size
  have rdx := (S.call hb0).r 1 rfl
  go_wp2_with (first
    | (at_builtin; refine wpList_app rfl rrecT (.tmp 68) (.tmp 69) rfl w9.heap.size rfl hown0 (m := n) rfl (by rw [recV_len, hn.out]) rdx (recV_one _) (by simp only [maxLen]; omega) (by omega) hsz n (recV l) (by omega) (by simp) ?_; intro v6 w10 hown6 hbel6; have hb6 := hb0.trans hbel6; have rdy := (S.call hb6).r 0 rfl; have hsz6 := hb6.size)
    | (at_builtin; refine wpList_app rfl rrecT (.tmp 70) (.tmp 71) rfl w9.heap.size rfl hown6 (m := n2) rfl (by rw [recV_len, hn2.out]) rdy (recV_one _) (by simp only [maxLen]; omega) (by omega) hsz6 (n + n2) (recV (l ++ l2)) (by omega) (by rw [recV_append]) ?_; intro v7 w11 hown7 hbel7; obtain ⟨A7, c7, rfl, rd7, hc7, hc7m⟩ := own_rd hown7))
  have hb7 := hb6.trans hbel7
  replace S := S.call hb7
  replace T3 := T3.call hb7
  replace T8 := T8.call hb7
  replace T9 := T9.call hb7
  clear hown0 hb0 hsz rdx hown6 hbel6 hb6 rdy hsz6 hown7 hbel7 hb7
  have hokb : ∀ r ∈ l ++ l2, RcOk w11 r := fun r hr => by
    rcases List.mem_append.1 hr with hr | hr
    · exact hok.out _ S.b r hr
    · exact hok2.out _ S.b r hr
  have K3 := rsame_any A9 A7 (n + n2) c9 (n + n2) c7 rs8 (l ++ l2) w11 (T9.r 0 rfl) rd7 (hrs8.out _ T8.b) hokb hrl.out (by rw [List.length_append, hn.out, hn2.out]) (by omega) hdat8.out
  replace K3 := Lib.hid K3
  clear hokb rd7
  (with_reducible refine K3.out.mono ?_)
  rintro e w12 ⟨rfl, hb⟩
  replace S := S.call hb
  replace T3 := T3.call hb
  clear hb K3 T8 T9 hrs8 hdat8 hrl
  obtain ⟨k, hk⟩ : ∃ k, c0 % (m1 + 1) = k := ⟨_, rfl⟩
  have hkm : k ≤ m1 := by rw [← hk]; have := Nat.mod_lt c0 (show 0 < m1 + 1 by omega); omega
  have hki : (c0 : Int) % ((m1 : Int) + 1) = (k : Int) := by rw [← hk, Int.natCast_emod, Int.natCast_add]; rfl
  clear hk
  have rdk := (T3.r 0 rfl).take k
  rw [← List.map_take] at rdk
  have hlk : Hid (((encAll (l.map dat)).take k).length = k) := by show _ = _; rw [List.length_take, hm1.out]; omega
  have hk0 : (0 : Int) ≤ (k : Int) := by omega
  have hk1 : (k : Int) ≤ (c3 : Int) := by omega
  go_wp2_with fail
  have K4 := cdecode_any A3 k c3 ((encAll (l.map dat)).take k) w12 rdk hlk.out (by omega) hc3m (by omega)
  unfold DecPost at K4
  obtain ⟨E4, hE4⟩ : ∃ x, decE ((encAll (l.map dat)).take k) = x := ⟨_, rfl⟩
  obtain ⟨L4, hL4⟩ : ∃ x, decL ((encAll (l.map dat)).take k) = x := ⟨_, rfl⟩
  rw [hE4, hL4] at K4
  have hgood : Hid (∀ j, pos (l.map dat) j = k → E4 = 0 ∧ L4 = (l.map dat).take j) := fun j hj => by
    have := cut_good (l.map dat) hE1.out j
    rw [hj, hE4, hL4] at this; exact this
  have hbad : Hid (∀ j, j < n → pos (l.map dat) j < k → k < pos (l.map dat) (j + 1) → E4 = 4 ∧ L4 = []) := fun j hj h1 h2 => by
    have := cut_bad (l.map dat) hE1.out j k (by rw [List.length_map, hn.out]; exact hj) h1 h2
    rw [hE4, hL4] at this; exact this
  have hfull : Hid (pos (l.map dat) n = m1) := by
    show _ = _
    rw [← hm1.out, ← pos_full, List.length_map, hn.out]
  have hstep : Hid (∀ j (h : j < l.length), pos (l.map dat) (j + 1) = pos (l.map dat) j + 3 + l[j].n) := fun j h => by
    rw [pos_succ _ _ (by rw [List.length_map]; exact h), List.getElem_map]
    rw [← (hok.out w (Below.refl _ _) l[j] (List.getElem_mem h)).len]; rfl
  have hpm : Hid (∀ j, pos (l.map dat) j ≤ m1) := fun j => by
    rw [← hm1.out]
    unfold pos
    conv => rhs; rw [← List.take_append_drop j (l.map dat), encAll_append, List.length_append]
    omega
  replace K4 := Lib.hid K4
  clear hE4 hL4 rdk hlk
  (with_reducible refine K4.out.mono ?_)
  rintro e w13 ⟨v13, rs, rfl, hown13, hrs, hdat, hb⟩
  replace S := S.call hb
  clear hb K4 T3
  obtain ⟨A13, c13, rfl, rd13, _, _⟩ := own_rd hown13
  have T := (St.start w13).read rd13
  replace hrs : Hid (∀ W', Below w13.heap.size w13 W' → ∀ r ∈ rs, RcOk W' r) := fun W' hb r hr => (hrs r hr).ok.below hb
  replace hdat := Lib.hid hdat
  clear hown13 rd13
  go_wp2_with fail
  go_loop [16, 17] (fun v16 v17 => ∃ j : Nat, j ≤ n ∧ v17 = .int .i64 j ∧ v16 = .int .i64 (pos (l.map dat) j) ∧ (j = 0 ∨ pos (l.map dat) (j - 1) < k)) (fun _ v17 => n - (intOf v17).toNat)
  case atStart => exact ⟨0, by omega, rfl, rfl, .inl rfl⟩
  case round =>
    obtain ⟨j, hj, rfl, rfl, hjk⟩ := hrel
    have hpj := hpm.out j
    by_cases hgo : j < n ∧ pos (l.map dat) j < k
    · obtain ⟨hjn, hlt⟩ := hgo
      have hjl : j < l.length := by rw [hn.out]; exact hjn
      obtain ⟨b, off, rfl, d0, d1⟩ := rd_recs (S.r 1 rfl) hjl
      have hst := hstep.out j hjl
      generalize l[j]'hjl = r at d0 d1 hst
      obtain ⟨t, C, q, c, bs⟩ := r
      simp only at d0 d1 hst
      have hpj1 := hpm.out (j + 1)
      generalize hP1 : pos (l.map dat) (j + 1) = P1 at hst hpj1
      generalize hP : pos (l.map dat) j = P at hst hpj hlt ⊢
      have hlt' : (P : Int) < (k : Int) := by omega
      replace hP1 := Lib.hid hP1
      replace hP := Lib.hid hP
      replace hst := Lib.hid hst
      have hq : (q : Int) ≤ 2000000 := by have := hst.out; omega
      clear hjk
      go_wp2_with fail
      go_round
      case rel => exact ⟨j + 1, by omega, by go_num, by rw [hP1.out, hst.out]; simp, .inr (by show pos _ j < k; rw [hP.out]; exact hlt)⟩
      case measure => simp [intOf]; omega
    · have hge : k ≤ pos (l.map dat) j := by
        by_cases hjn : j < n
        · have : ¬ pos (l.map dat) j < k := fun h => hgo ⟨hjn, h⟩
          omega
        · obtain rfl : j = n := by omega
          rw [hfull.out]; exact hkm
      have hgood2 := hgood.out j
      have hbad2 : k < pos (l.map dat) j → E4 = 4 ∧ L4 = [] := fun h => by
        rcases hjk with rfl | hjk
        · rw [pos_zero] at h; omega
        · have hj1 : j ≠ 0 := by rintro rfl; rw [pos_zero] at h; omega
          refine hbad.out (j - 1) (by omega) hjk ?_
          rw [show j - 1 + 1 = j by omega]; exact h
      have hT : (j < n ∧ ¬ pos (l.map dat) j < k) ∨ ¬ j < n := by
        by_cases hjn : j < n
        · exact .inl ⟨hjn, fun h => hgo ⟨hjn, h⟩⟩
        · exact .inr hjn
      generalize hP : pos (l.map dat) j = P at hpj hge hgood2 hbad2 hT ⊢
      clear hgo hjk hP
      by_cases hPk : P = k
      · obtain ⟨e1, e2⟩ := hgood2 hPk
        subst hPk
        obtain rfl : E4 = 0 := e1
        have hdt : Hid (rs.map dat = (l.take j).map dat) := by show _ = _; rw [hdat.out, e2, List.map_take]
        have hrl : rs.length = j := by
          have := congrArg List.length hdt.out
          rw [List.length_map, List.length_map, List.length_take, hn.out] at this
          omega
        rw [hrl]
        replace hrl := Lib.hid hrl
        clear hgood2 hbad2 e2 hdat
        have X := Lib.hid (fun W hR => back_any A13 j c13 rs W hR hrl.out (by omega))
        rcases hT with ⟨hjn, hnk⟩ | hjn
        all_goals
          have hj0 : (0 : Int) ≤ (j : Int) := by omega
          have hjc : (j : Int) ≤ (n : Int) := by omega
          have hjcap : (j : Int) ≤ (cap : Int) := by omega
          have hlj : Hid ((l.take j).length = j) := by show _ = _; rw [List.length_take, hn.out]; omega
          have rdl : Hid (Rd w A (recV (l.take j))) := by
            have := (S.rd 1 _ rfl).take (2 * j)
            have e : (recV l).take (2 * j) = recV (l.take j) := by
              conv => lhs; rw [← List.take_append_drop j l, recV_append]
              rw [List.take_left' (by rw [recV_len, hlj.out]; omega)]
            rwa [e] at this
          have hokj : Hid (∀ W', Below w.heap.size w W' → ∀ r ∈ l.take j, RcOk W' r) := fun W' hb r hr => hok.out W' hb r (List.mem_of_mem_take hr)
          clear hok
          go_wp2_with fail
          have tok1 : True := trivial
          go_region_held3 (fun _ => True) (first | exact trivial | go_keep)
            (first
              | (clear tok1; go_at_call 16; first | refine (X.out _ (T.r 0 rfl)).mono ?_ | refine (X.out _ (T.drew.r 0 rfl)).mono ?_; rintro e w14 ⟨v14, rfl, hown14, hb14⟩; obtain ⟨A14, c14, rfl, rd14, _, _⟩ := own_rd hown14; first | have S14 := S.call hb14 | have S14 := S.drew.call hb14; first | have T14 := T.call hb14 | have T14 := T.drew.call hb14)
              | (go_at_call 15; refine (rsame_any A14 A j c14 j cap rs (l.take j) w14 rd14 (rdl.out.below S14.b) (hrs.out _ T14.b) (hokj.out _ S14.b) hrl.out hlj.out (by omega) hdt.out).mono ?_; rintro e w15 ⟨rfl, hb15⟩))
          have bb := S14.b.trans (hb15.mono S14.b.size)
          clear hb15 hb14
          go_wp2_with fail
          go_ret
          exact ⟨rfl, bb⟩
      · obtain ⟨e1, e2⟩ := hbad2 (by omega)
        obtain rfl : E4 = 4 := e1
        have hrn : rs = [] := by have := hdat.out; rw [e2] at this; simpa using this
        subst hrn
        have hPk' : ((P : Int) != (k : Int)) = true := by simp; omega
        clear hgood2 hbad2 e2 hdat
        rcases hT with ⟨hjn, hnk⟩ | hjn
        all_goals
          go_wp2_with fail
          go_ret
          exact ⟨rfl, S.b⟩

end Go.Proofs.Ythegpmoddmnhoaa
