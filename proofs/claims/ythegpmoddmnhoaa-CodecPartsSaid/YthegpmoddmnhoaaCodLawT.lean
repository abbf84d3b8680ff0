/-
  The walk of the statement CodecRoundTrip.
-/
import Derived.Test.YthegpmoddmnhoaaCodAw
import Derived.Test.YthegpmoddmnhoaaCodSm
namespace Go.Proofs.Ythegpmoddmnhoaa
set_option linter.unusedVariables false
open Go.RowKit

/-- The second half: reading the bytes, writing what was read. -/
theorem dec_enc (bs : List UInt8) (h : decE bs = 0) : encE (decL bs) = 0 ∧ encR (decL bs) = bs := by
  unfold decE at h
  cases hd : decO bs with
  | none => rw [hd] at h; simp at h
  | some l =>
    obtain ⟨h1, h2, _⟩ := decO_all _ bs (Nat.le_refl _) l hd
    have hl : decL bs = l := by unfold decL; rw [hd]; rfl
    rw [hl]
    exact ⟨h1, by unfold encR; rw [if_pos h1, h2]⟩
theorem enc_dec (l : List Rec) (h : encE l = 0) : decE (encR l) = 0 ∧ decL (encR l) = l := by
  have hR : encR l = encAll l := by unfold encR; rw [if_pos h]
  rw [hR]
  unfold decE decL
  rw [decO_full l h]
  exact ⟨rfl, rfl⟩
theorem dec_bad (bs : List UInt8) (h : decE bs ≠ 0) : decE bs = 4 ∧ decL bs = [] := by
  unfold decE at h ⊢
  unfold decL
  cases hd : decO bs with
  | none => simp
  | some l => rw [hd] at h; simp at h

theorem encR_len (l : List Rec) (n : Nat) (hn : l.length ≤ n) : (encR l).length ≤ 65538 * n := by
  by_cases h : encE l = 0
  · have hR : encR l = encAll l := by unfold encR; rw [if_pos h]
    rw [hR]
    have hall : ∀ l : List Rec, encE l = 0 → (encAll l).length ≤ 65538 * l.length := by
      intro l
      induction l with
      | nil => intro _; simp [encAll]
      | cons r l ih =>
        intro h
        have hm := encE_mem (r :: l) h r (by simp)
        have hl : encE l = 0 := by
          rw [encE] at h
          split at h
          · omega
          · split at h
            · omega
            · exact h
        have := ih hl
        rw [encAll, List.length_append, enc1_len, List.length_cons]
        omega
    have := hall l h
    omega
  · unfold encR; rw [if_neg h]; simp

set_option maxHeartbeats 4000000 in
set_option maxRecDepth 100000 in
theorem trip_law (w : World) (A : Option Addr) (n cap : Nat) (l : List Rc) (hr : Rd w A (recV l)) (hn : l.length = n) (hm : n ≤ maxLen) (hok : ∀ r ∈ l, RcOk w r)
    (B : Option Addr) (n2 cap2 : Nat) (bs : List UInt8) (hr2 : Bs w B bs) (hn2 : bs.length = n2) (hcap2 : n2 ≤ cap2) (hm2 : cap2 ≤ maxLen) :
    Calls Try.prog 5 #[.slice A n cap, .slice B n2 cap2] w fun e w' => e = .returned (.bool true) ∧ Below w.heap.size w w' := by
  have hmm := hm2
  unfold maxLen at hm hm2
  have S := ((St.start w).read hr).read hr2
  replace hok : Hid (∀ W', Below w.heap.size w W' → ∀ r ∈ l, RcOk W' r) := fun W' hb r hr => (hok r hr).below hb
  replace hn := Lib.hid hn
  replace hn2 := Lib.hid hn2
  clear hr hr2
  go_enter Try.func5, Try.ntmps5
  go_wp2_with fail
  (with_reducible refine (awake_any _).mono ?_)
  rintro e w1 ⟨rfl, hb⟩
  replace S := S.call hb
  clear hb
  by_cases hl : 40 < n
  · have hl' : (40 : Int) < n := by omega
    go_wp2_with fail
    go_ret
    exact ⟨rfl, S.b⟩
  have hl' : ¬ (40 : Int) < n := by omega
  go_wp2_with fail
  (with_reducible refine (size_any A n cap l _ (S.r 1 rfl) hn.out (by omega)).mono ?_)
  rintro e w1' ⟨⟨z, rfl⟩, rfl⟩
  by_cases hz : 2000 < z
  · go_wp2_with fail
    go_ret
    exact ⟨rfl, S.b⟩
  by_cases hb2 : 2000 < n2
  · have hb2' : (2000 : Int) < n2 := by omega
    go_wp2_with fail
    go_ret
    exact ⟨rfl, S.b⟩
  have hb2' : ¬ (2000 : Int) < n2 := by omega
  go_wp2_with fail
  (with_reducible refine (own_any A n cap l _ (S.r 1 rfl) hn.out (by omega)).mono ?_)
  rintro e w2 ⟨v, rfl, hown, hb⟩
  replace S := S.call hb
  obtain ⟨A1, c1, rfl, rd1, _, _⟩ := own_rd hown
  clear hb hown
  have K1 := cencode_any A1 n c1 l w2 rd1 (hok.out _ S.b) hn.out (by omega)
  obtain ⟨E, hE⟩ : ∃ x, encE (l.map dat) = x := ⟨_, rfl⟩
  obtain ⟨R, hR⟩ : ∃ x, encR (l.map dat) = x := ⟨_, rfl⟩
  obtain ⟨m, hm3⟩ : ∃ m, R.length = m := ⟨_, rfl⟩
  have hml : m ≤ 65538 * 40 := by
    rw [← hm3, ← hR]; exact encR_len _ _ (by rw [List.length_map, hn.out]; omega)
  have hed : Hid (E = 0 → decE R = 0 ∧ decL R = l.map dat) := fun h => by rw [← hR]; exact enc_dec _ (hE.trans h)
  rw [hE, hR, hm3] at K1
  replace K1 := Lib.hid K1
  replace hm3 := Lib.hid hm3
  clear hE hR rd1
  go_wp2_with fail
  (with_reducible refine K1.out.mono ?_)
  rintro e w3 ⟨v3, rfl, hown3, hb⟩
  replace S := S.call hb
  clear hb K1
  obtain ⟨A3, c3, rfl, rd3, hc3, hc3m⟩ := own_rd hown3
  have KD := fun W (hR : Bs W B bs) => cdecode_any B n2 cap2 bs W hR hn2.out hcap2 hmm (by omega)
  replace KD := Lib.hid KD
  by_cases hz0 : E = 0
  case' pos =>
    subst hz0
    obtain ⟨d1, d2⟩ := hed.out rfl
    have K2 := cdecode_any A3 m c3 R w3 rd3 hm3.out hc3 hc3m (by omega)
    unfold DecPost at K2
    rw [d1, d2] at K2
    replace K2 := Lib.hid K2
    clear d1 d2 hed hown3 rd3
    go_wp2_with fail
    (with_reducible refine K2.out.mono ?_)
    rintro e w4 ⟨v4, rs, rfl, hown4, hrs, hdat, hb⟩
    replace S := S.call hb
    clear hb K2
    obtain ⟨A4, c4, rfl, rd4, _, _⟩ := own_rd hown4
    have hrl : rs.length = n := by
      have := congrArg List.length hdat
      rw [List.length_map, List.length_map] at this
      rw [this, hn.out]
    have T := (St.start w4).read rd4
    replace hrs : Hid (∀ W', Below w4.heap.size w4 W' → ∀ r ∈ rs, RcOk W' r) := fun W' hb r hr => (hrs r hr).ok.below hb
    replace hdat := Lib.hid hdat
    rw [hrl]
    replace hrl := Lib.hid hrl
    clear hown4 rd4
    go_wp2_with fail
    (with_reducible refine (back_any A4 n c4 rs _ (T.r 0 rfl) hrl.out (by omega)).mono ?_)
    rintro e w5 ⟨v5, rfl, hown5, hb⟩
    replace S := S.call hb
    replace T := T.call hb
    obtain ⟨A5, c5, rfl, rd5, _, _⟩ := own_rd hown5
    clear hb hown5
    go_wp2_with fail
    (with_reducible refine (rsame_any A5 A n c5 n cap rs l _ rd5 (S.r 1 rfl) (hrs.out _ T.b) (hok.out _ S.b) hrl.out hn.out (by omega) hdat.out).mono ?_)
    rintro e w6 ⟨rfl, hb⟩
    replace S := S.call hb
    clear hb rd5 hrs T
    go_wp2_with fail
  case' neg =>
    have hz0' : (E == 0) = false := by simpa using hz0
    clear hed rd3 hown3
    go_wp2_with fail
  all_goals
    (with_reducible refine (KD.out _ (S.r 0 rfl)).mono ?_)
    rintro e w7 ⟨v7, rs7, rfl, hown7, hrs7, hdat7, hb⟩
    replace S := S.call hb
    clear hb KD
    by_cases hd0 : decE bs = 0
    · obtain ⟨e1, e2⟩ := dec_enc bs hd0
      rw [hd0]
      obtain ⟨A7, c7, rfl, rd7, _, _⟩ := own_rd hown7
      have hrl : rs7.length ≤ 1000000 := by
        have h1 := congrArg List.length hdat7
        rw [List.length_map] at h1
        have h2 := decL_len bs
        rw [hn2.out] at h2
        omega
      have K7 := cencode_any A7 rs7.length c7 rs7 w7 rd7 (fun r hr => (hrs7 r hr).ok) rfl hrl
      rw [hdat7, e1, e2, hn2.out] at K7
      replace K7 := Lib.hid K7
      clear e1 e2 hd0 hown7 hrs7 hdat7 rd7
      go_wp2_with fail
      (with_reducible refine K7.out.mono ?_)
      rintro e w8 ⟨v8, rfl, hown8, hb⟩
      replace S := S.call hb
      clear hb K7
      obtain ⟨A8, c8, rfl, rd8, _, _⟩ := own_rd hown8
      have cv := conv_bytes (P := Try.prog) w8 (src := 27) (dst := 9) (e := 5) Try.underlying27 Try.underlying5 Try.underlying9 (cap := c8) rd8 hn2.out
      have cv2 := conv_bytes (P := Try.prog) w8 (src := 27) (dst := 9) (e := 5) Try.underlying27 Try.underlying5 Try.underlying9 (cap := cap2) (S.r 0 rfl) hn2.out
      clear rd8 hown8
      go_wp2_with fail
      go_ret
      exact ⟨rfl, S.b⟩
    · obtain ⟨e1, e2⟩ := dec_bad bs hd0
      rw [e1]
      rw [e2] at hdat7
      obtain rfl : rs7 = [] := by simpa using hdat7
      obtain ⟨A7, c7, rfl, rd7, _, _⟩ := own_rd hown7
      clear e1 e2 hd0 hown7 hrs7 hdat7 rd7
      go_wp2_with fail
      go_ret
      exact ⟨rfl, S.b⟩

end Go.Proofs.Ythegpmoddmnhoaa
