/-
  messages: the reference's Unpack.
-/
import Derived.Test.YtdepfgalaicpeaaMsRP
import Derived.Test.YtdepfgalaicpeaaMsU
import Derived.Test.YtdepfgalaicpeaaDecR
namespace Go.Proofs.Ytdepfgalaicpeaa
set_option linter.unusedVariables false
open Go.RowKit Go.Sort

theorem split_num (l : List UInt8) (a b : Nat) (h : a + b = l.length) : numB (uintB (l.take a)) a ++ numB (uintB ((l.drop a).take b)) b = l := by
  have h1 : numB (uintB (l.take a)) a = l.take a := by
    have := num_uint (l.take a)
    rwa [List.length_take, Nat.min_eq_left (by omega)] at this
  have h2 : numB (uintB ((l.drop a).take b)) b = l.drop a := by
    have := num_uint ((l.drop a).take b)
    rw [List.length_take, List.length_drop, Nat.min_eq_left (by omega)] at this
    rw [this, List.take_of_length_le (by rw [List.length_drop]; omega)]
  rw [h1, h2, List.take_append_drop]
/-- The bytes of the message that was found. -/
theorem unp_enc {bs : List UInt8} {r : Rec} (hd : decO bs = some [r]) (h : unpE1 r = 0) : msB (unpR r) = true ∧ msEnc (unpR r) = bs := by
  have hal : encAll [r] = bs := (decO_all _ bs (Nat.le_refl _) _ hd).2.1
  have hal2 : enc1 r = bs := by rw [← hal]; simp [encAll]
  obtain ⟨t, x⟩ := r
  unfold unpE1 at h
  simp only at h
  by_cases h1 : t = 1
  · subst h1
    rw [if_pos rfl] at h
    by_cases hx : x.length = 10 ∧ msB (unpR (1, x)) = true
    · refine ⟨hx.2, ?_⟩
      rw [← hal2]
      unfold msEnc msVal unpR
      simp only [if_true]
      rw [Int.toNat_natCast, Int.toNat_natCast, Int.toNat_natCast]
      have e1 : numB (uintB ((x.drop 2).take 4)) 4 ++ numB (uintB ((x.drop 6).take 4)) 4 = x.drop 2 := by
        have := split_num (x.drop 2) 4 4 (by rw [List.length_drop]; omega)
        rwa [List.drop_drop] at this
      have e2 : numB (uintB (x.take 2)) 2 = x.take 2 := by
        have := num_uint (x.take 2)
        rwa [List.length_take, Nat.min_eq_left (by omega)] at this
      rw [e1, e2, List.take_append_drop]
    · rw [if_neg hx] at h; cases h
  · rw [if_neg h1] at h
    by_cases h2 : t = 2 ∨ t = 3
    · rw [if_pos h2] at h
      by_cases h4 : x.length < 4
      · rw [if_pos h4] at h; cases h
      · rw [if_neg h4] at h
        by_cases hc : chk (x.drop 4) = false
        · rw [if_pos hc] at h; cases h
        · rw [if_neg hc] at h
          by_cases hm : msB (unpR (t, x)) = true
          · refine ⟨hm, ?_⟩
            obtain ⟨_, hmc⟩ := ms_cases hm
            have hR : unpR (t, x) = ⟨t, 0, uintB (x.take 4), 0, ldecV (x.drop 4)⟩ := by unfold unpR; rw [if_neg h1]
            rw [hR] at hmc ⊢
            simp only at hmc
            rcases hmc with ⟨e, _⟩ | ⟨_, _, _, hv⟩
            · exact absurd e h1
            · rw [← hal2]
              by_cases hx : ∃ y, DecIs (x.drop 4) y
              · obtain ⟨y, hy⟩ := hx
                obtain ⟨_, hy2⟩ := ldec_yes hy
                rw [hy2]
                unfold msEnc msVal
                simp only
                rw [if_neg h1, Int.toNat_natCast, hy.2]
                have e2 : numB (uintB (x.take 4)) 4 = x.take 4 := by
                  have := num_uint (x.take 4)
                  rwa [List.length_take, Nat.min_eq_left (by omega)] at this
                rw [e2, List.take_append_drop]
              · rw [ldecV_no hx] at hv
                have := hv.2.1
                simp [laZero] at this
          · rw [if_neg hm] at h; cases h
    · rw [if_neg h2] at h; cases h
theorem ldecE_bad {bs : List UInt8} (h : ldecE bs ≠ 0) (hc : chk bs = true) : ldecV bs = laZero := by
  by_cases hx : ∃ y, DecIs bs y
  · obtain ⟨y, hy⟩ := hx
    exact absurd (ldec_yes hy).1 h
  · exact ldecV_no hx
theorem msB_zero (t n b h : Int) (ht : t ≠ 1) : msB ⟨t, n, b, h, laZero⟩ = false := by
  have : vB laZero = false := vB_f (fun hv => by have := hv.2.1; simp [laZero] at this)
  simp [msB, ht, this]
theorem LaAt.drew' {w : World} {v : Value} {x : La} (h : LaAt w v x) : LaAt w.drew v x := h
theorem LaOwn.drew' {w : World} {base : Nat} {v : Value} {x : La} (h : LaOwn w base v x) : LaOwn w.drew base v x := h
/-- What the reference's tests decide. -/
def Fin (bs : List UInt8) (M : Ms) (ye : Int) : Prop := (unpE bs = if ye = 0 ∧ msB M = true then 0 else 4) ∧ (ye = 0 → msB M = true → unpM bs = M ∧ msEnc M = bs)
theorem fin_of {bs : List UInt8} {r : Rec} {M : Ms} {ye : Int} (hd : decO bs = some [r]) (h1 : unpE1 r = if ye = 0 ∧ msB M = true then 0 else 4) (h2 : ye = 0 → msB M = true → unpR r = M) : Fin bs M ye := by
  have hE : unpE bs = unpE1 r := by unfold unpE; rw [hd]
  refine ⟨by rw [hE, h1], fun a b => ?_⟩
  have h0 : unpE1 r = 0 := by rw [h1, if_pos ⟨a, b⟩]
  have hM : unpM bs = unpR r := by unfold unpM; rw [hd]; simp only; rw [if_pos h0]
  rw [hM, ← h2 a b]
  exact ⟨rfl, (unp_enc hd h0).2⟩
theorem Fin.bad {bs : List UInt8} {M : Ms} {ye : Int} (h : Fin bs M ye) (hn : ¬ (ye = 0 ∧ msB M = true)) (hr : ∃ r, decO bs = some [r]) : unpE bs = 4 ∧ unpM bs = msZero := by
  have h4 : unpE bs = 4 := by rw [h.1, if_neg hn]
  refine ⟨h4, ?_⟩
  obtain ⟨r, hr⟩ := hr
  unfold unpE at h4
  unfold unpM
  rw [hr] at h4 ⊢
  simp only at h4 ⊢
  rw [h4, if_neg (by omega)]

set_option maxRecDepth 100000 in
set_option maxHeartbeats 12800000 in
theorem runpack_any (A : Option Addr) (n cap : Nat) (bs : List UInt8) (w : World) (hr : Bs w A bs) (hn : bs.length = n) (hcap : n ≤ cap) (hm : cap ≤ maxLen) (hn2 : n ≤ 100000) :
    Calls Try.prog 13 #[.slice A n cap] w (UnpPost w (unpE bs) (unpM bs)) := by
  have S : St w (w.alloc (.cells #[.int .i64 0, .int .i64 0, .int .i64 0, .int .i64 0, .int .i64 0, .int .i64 0, .int .i64 0, .bool false, .slice none 0 0, .slice none 0 0] 27)) [(w.heap.size, z10)] [(A, bs.map u8v)] := ((St.start w).read hr).new #[.int .i64 0, .int .i64 0, .int .i64 0, .int .i64 0, .int .i64 0, .int .i64 0, .int .i64 0, .bool false, .slice none 0 0, .slice none 0 0] 27
  have DK := rdecode_any A n cap bs _ (S.r 0 rfl) hn hcap hm (by omega)
  obtain ⟨E, hE⟩ : ∃ E, unpE bs = E := ⟨_, rfl⟩
  obtain ⟨V, hV⟩ : ∃ V, unpM bs = V := ⟨_, rfl⟩
  have hE0 := hE
  have hV0 := hV
  rw [hE, hV]
  unfold unpE at hE
  unfold unpM at hV
  have hfail : Hid (∀ E w9, Below w.heap.size w w9 → UnpPost w E msZero (.returned (.tuple #[.agg #[.int .i64 0, .int .i64 0, .int .i64 0, .int .i64 0, .int .i64 0, .int .i64 0, .int .i64 0, .bool false, .slice none 0 0, .slice none 0 0], .int .i64 E])) w9) := fun E w9 S9 => ⟨_, rfl, msZero_own _ _, S9⟩
  rcases hD : decO bs with _ | l
  · rw [hD] at hE hV
    simp only at hE hV
    subst hE hV
    have hDE : Hid (decE bs = 4) := by show _ = _; unfold decE; rw [hD]; rfl
    clear hD hE0 hV0
    replace hn := Lib.hid hn
    go_enter Try.func13, Try.ntmps13
    go_wp2_with fail
    (with_reducible refine DK.mono ?_)
    rintro e w2 ⟨v, rs, rfl, hown, hrs, hd, hb2⟩
    rw [hDE.out]
    replace hd := Lib.hid hd
    replace S := S.call hb2
    have r0 := S.c 0 0 rfl rfl
    have r1 := S.c 0 1 rfl rfl
    have r2 := S.c 0 2 rfl rfl
    have r3 := S.c 0 3 rfl rfl
    have r4 := S.c 0 4 rfl rfl
    have r5 := S.c 0 5 rfl rfl
    have r6 := S.c 0 6 rfl rfl
    have r7 := S.c 0 7 rfl rfl
    have r8 := S.c 0 8 rfl rfl
    have r9 := S.c 0 9 rfl rfl
    have f0 := S.f 0 0 rfl rfl
    have f1 := S.f 0 1 rfl rfl
    have f2 := S.f 0 2 rfl rfl
    have f3 := S.f 0 3 rfl rfl
    have f4 := S.f 0 4 rfl rfl
    have f5 := S.f 0 5 rfl rfl
    have f6 := S.f 0 6 rfl rfl
    have f7 := S.f 0 7 rfl rfl
    have f8 := S.f 0 8 rfl rfl
    have f9 := S.f 0 9 rfl rfl
    go_wp2_with fail
    have S9 := S.setM (.int .i64 0) (.int .i64 0) (.int .i64 0) (.int .i64 0) (.int .i64 0) (.int .i64 0) (.int .i64 0) (.bool false) (.slice none 0 0) (.slice none 0 0) (Nat.le_refl _) (by simp)
    exact bodyPost_ret (v := .tuple #[.agg #[.int .i64 0, .int .i64 0, .int .i64 0, .int .i64 0, .int .i64 0, .int .i64 0, .int .i64 0, .bool false, .slice none 0 0, .slice none 0 0], .int .i64 4]) (by simp [results, Try.results13, go_sem, r0, r1, r2, r3, r4, r5, r6, r7, r8, r9]) rfl (hfail.out _ _ S9.b)
  have hDE : Hid (decE bs = 0) := by show _ = _; unfold decE; rw [hD]; rfl
  have hDL : Hid (decL bs = l) := by show _ = _; unfold decL; rw [hD]; rfl
  have hal := (decO_all _ bs (Nat.le_refl _) l hD).2.1
  rw [hD] at hE hV
  by_cases h1 : ¬ l.length = 1
  · have hE4 : E = 4 ∧ V = msZero := by
      rcases l with _ | ⟨a, _ | ⟨b, l⟩⟩
      · simp only at hE hV; exact ⟨hE.symm, hV.symm⟩
      · simp at h1
      · simp only at hE hV; exact ⟨hE.symm, hV.symm⟩
    obtain ⟨rfl, rfl⟩ := hE4
    clear hE hV hE0 hV0 hD
    replace hn := Lib.hid hn
    replace h1 := Lib.hid h1
    go_enter Try.func13, Try.ntmps13
    go_wp2_with fail
    (with_reducible refine DK.mono ?_)
    rintro e w2 ⟨v, rs, rfl, hown, hrs, hd, hb2⟩
    rw [hDE.out]
    rw [hDL.out] at hd
    have hrl : ¬ rs.length = 1 := fun h => h1.out (by rw [← hd, List.length_map]; exact h)
    obtain ⟨A1, c1', rfl, _⟩ := own_rd hown
    replace hd := Lib.hid hd
    replace S := S.call hb2
    have hrl2 : ((rs.length : Int) != 1) = true := by simp; omega
    clear hown hrs hrl
    have r0 := S.c 0 0 rfl rfl
    have r1 := S.c 0 1 rfl rfl
    have r2 := S.c 0 2 rfl rfl
    have r3 := S.c 0 3 rfl rfl
    have r4 := S.c 0 4 rfl rfl
    have r5 := S.c 0 5 rfl rfl
    have r6 := S.c 0 6 rfl rfl
    have r7 := S.c 0 7 rfl rfl
    have r8 := S.c 0 8 rfl rfl
    have r9 := S.c 0 9 rfl rfl
    have f0 := S.f 0 0 rfl rfl
    have f1 := S.f 0 1 rfl rfl
    have f2 := S.f 0 2 rfl rfl
    have f3 := S.f 0 3 rfl rfl
    have f4 := S.f 0 4 rfl rfl
    have f5 := S.f 0 5 rfl rfl
    have f6 := S.f 0 6 rfl rfl
    have f7 := S.f 0 7 rfl rfl
    have f8 := S.f 0 8 rfl rfl
    have f9 := S.f 0 9 rfl rfl
    go_wp2_with fail
    have S9 := S.setM (.int .i64 0) (.int .i64 0) (.int .i64 0) (.int .i64 0) (.int .i64 0) (.int .i64 0) (.int .i64 0) (.bool false) (.slice none 0 0) (.slice none 0 0) (Nat.le_refl _) (by simp)
    exact bodyPost_ret (v := .tuple #[.agg #[.int .i64 0, .int .i64 0, .int .i64 0, .int .i64 0, .int .i64 0, .int .i64 0, .int .i64 0, .bool false, .slice none 0 0, .slice none 0 0], .int .i64 4]) (by simp [results, Try.results13, go_sem, r0, r1, r2, r3, r4, r5, r6, r7, r8, r9]) rfl (hfail.out _ _ S9.b)
  obtain ⟨r, rfl⟩ := List.length_eq_one_iff.1 (Decidable.not_not.1 h1)
  clear hE hV
  replace hE0 := Lib.hid hE0
  replace hV0 := Lib.hid hV0
  clear h1
  replace hn := Lib.hid hn
  replace hD := Lib.hid hD
  go_enter Try.func13, Try.ntmps13
  go_wp2_with fail
  (with_reducible refine DK.mono ?_)
  rintro e w2 ⟨v, rs, rfl, hown, hrs, hd, hb2⟩
  rw [hDE.out]
  rw [hDL.out] at hd
  obtain ⟨rc, rfl⟩ := List.length_eq_one_iff.1 (show rs.length = 1 by have := congrArg List.length hd; simpa using this)
  have hrc := hrs rc (by simp)
  have hdr : dat rc = r := by simpa using hd
  obtain ⟨g3, c3, rfl, hg3, hg3l, hown3⟩ := own_form hown (by simp)
  replace S := S.call hb2
  obtain ⟨t, X, nx, cx, bx⟩ := rc
  simp only [dat] at hdr
  subst hdr
  obtain ⟨k1, k2, k3, k4⟩ := hrc.ok
  simp only at k1 k2 k3 k4
  have rd3 := (own_rdp hown3).1
  have z0 := rd3.at 0 (u := .int .i64 t) rfl
  have z1 := rd3.at 1 (u := .slice X nx cx) rfl
  have hbxl : bx.length ≤ 100000 := by
    have := congrArg List.length hal
    simp [encAll, enc1_len] at this
    have := hn.out
    omega
  clear hal
  have T := S.new' #[.int .i64 t, .int .i64 0, .int .i64 0, .int .i64 0, .int .i64 0, .int .i64 0, .int .i64 0, .bool false, .slice none 0 0, .slice none 0 0] 27 w2.heap.size _ rfl rfl
  have k1' := k1.below (below_new' _ (.cells #[.int .i64 t, .int .i64 0, .int .i64 0, .int .i64 0, .int .i64 0, .int .i64 0, .int .i64 0, .bool false, .slice none 0 0, .slice none 0 0] 27))
  clear hown hrs hrc hown3 rd3 DK hd
  have hlt2 := S.lt 0 rfl (by simp)
  have hk1b : ∀ ad, X = some ad → 0 < bx.length → ad.block < w2.heap.size := fun ad e hp => by
    obtain ⟨ad', e', hb⟩ := Rd.block k1 (by simpa using hp)
    rw [e] at e'; injection e' with e'; subst e'; exact hb
  go_upto_region 6 with fail
  clear z0 z1
  generalize w2.alloc _ = w3 at *
  generalize w2.heap.size = g4 at *
  have hval : Hid (∀ W, Bs W X bx → ∀ j u, Bs (W.setCell ⟨g4, j, none⟩ u) X bx) := fun W h j u => Rd.keptR h (grownBy_set _ _ _ _) (fun hp ad e e2 => by have := hk1b ad e (by simpa using hp); injection e2 with e2; omega)
  clear S k1 hk1b
  replace k2 := Lib.hid k2
  have hv0 : vB laZero = false := vB_f (fun hv => by have := hv.2.1; simp [laZero] at this)
  have hex : ∃ r, decO bs = some [r] := ⟨_, hD.out⟩
  replace hex := Lib.hid hex
  have a0 := T.c 0 0 rfl rfl
  have a1 := T.c 0 1 rfl rfl
  have a2 := T.c 0 2 rfl rfl
  have a3 := T.c 0 3 rfl rfl
  have a4 := T.c 0 4 rfl rfl
  have a5 := T.c 0 5 rfl rfl
  have a6 := T.c 0 6 rfl rfl
  have a7 := T.c 0 7 rfl rfl
  have a8 := T.c 0 8 rfl rfl
  have a9 := T.c 0 9 rfl rfl
  by_cases hA : (t = 2 ∨ t = 3) ∧ 4 ≤ bx.length
  · obtain ⟨ht2, h4⟩ := hA
    have ht1 : t ≠ 1 := by omega
    have hnx : 4 ≤ nx := by have := k2.out; omega
    have hnx2 : (4 : Int) ≤ nx := by omega
    have hnx3 : nx ≤ 100000 := by have := k2.out; omega
    have hsl : ∀ W, (Instr.slice 30 (.slice X nx cx) (some (.int .i64 4)) none none).run Try.prog W = .ok (.slice (subA X 4 cx) (nx - 4) (cx - 4)) W := fun W => run_from bytesT X nx cx 4 hnx W
    have hs0 : ∀ W, (Instr.slice 30 (.slice X nx cx) none (some (.int .i64 4)) none).run Try.prog W = .ok (.slice X 4 cx) W := fun W => run_upto bytesT X nx cx 4 (by omega) W
    have hr4 : ∀ W, Bs W X bx → Bs W (subA X 4 cx) (bx.drop 4) := fun W h => by
      have := Rd.sub h 4 cx (by simpa [k2.out] using k3)
      rwa [← List.map_drop] at this
    have hl4 : (bx.drop 4).length = nx - 4 := by rw [List.length_drop, k2.out]
    have CK := fun W h => refSum_any (subA X 4 cx) (nx - 4) (cx - 4) (bx.drop 4) W (hr4 W h) hl4 (by omega)
    have LD := fun W h => rldecode_any (subA X 4 cx) (nx - 4) (cx - 4) (bx.drop 4) W (hr4 W h) hl4 (by omega) (by unfold maxLen; omega) (by omega)
    have U1 := fun W (hb : Bs W X bx) => ruint_any X 4 cx (bx.take 4) W (by have := Rd.take hb 4; rwa [← List.map_take] at this) (by rw [List.length_take]; omega) (by omega)
    have hq1 := uintB_small (bs := bx.take 4) (by rw [List.length_take]; omega)
    generalize subA X 4 cx = X4 at *
    have tt : ((t == 2) = true ∧ (t == 3) = false) ∨ ((t == 2) = false ∧ (t == 3) = true) := by rcases ht2 with rfl | rfl <;> simp
    have hmz : ∀ n b h, msB ⟨t, n, b, h, laZero⟩ = false := fun n b h => msB_zero t n b h ht1
    by_cases hc : chk (bx.drop 4) = false
    · have hE5 : unpE bs = 5 ∧ unpM bs = msZero := by
        have e5 : unpE1 (t, bx) = 5 := by unfold unpE1; rw [if_neg ht1, if_pos ht2, if_neg (by simp only; omega), if_pos hc]
        unfold unpE unpM
        rw [hD.out]
        simp only
        rw [e5, if_neg (by omega)]
        exact ⟨rfl, rfl⟩
      obtain rfl : E = 5 := by rw [← hE0.out]; exact hE5.1
      obtain rfl : V = msZero := by rw [← hV0.out]; exact hE5.2
      clear hE0 hV0
      have hf : ¬ fl1 (bx.drop 4) = 0 ∨ (fl1 (bx.drop 4) = 0 ∧ ¬ fl2 (bx.drop 4) = 0) := by
        unfold chk at hc
        by_cases h1 : fl1 (bx.drop 4) = 0
        · by_cases h2 : fl2 (bx.drop 4) = 0
          · rw [h1, h2] at hc; simp at hc
          · exact .inr ⟨h1, h2⟩
        · exact .inl h1
      generalize fl1 (bx.drop 4) = x1 at *
      generalize fl2 (bx.drop 4) = x2 at *
      replace CK := Lib.hid CK
      clear h4 LD hr4 hl4 U1 hc hE5 hmz ht1 ht2 hq1 hs0
      rcases tt with ⟨t2, t3⟩ | ⟨t2, t3⟩
      all_goals
        rcases hf with hf | ⟨rfl, hf⟩
        all_goals
          go_wp2_with fail
          (with_reducible refine (CK.out _ k1').mono ?_)
          rintro e w4 ⟨rfl, rfl⟩
          have r0 := T.c 1 0 rfl rfl
          have r1 := T.c 1 1 rfl rfl
          have r2 := T.c 1 2 rfl rfl
          have r3 := T.c 1 3 rfl rfl
          have r4 := T.c 1 4 rfl rfl
          have r5 := T.c 1 5 rfl rfl
          have r6 := T.c 1 6 rfl rfl
          have r7 := T.c 1 7 rfl rfl
          have r8 := T.c 1 8 rfl rfl
          have r9 := T.c 1 9 rfl rfl
          have f0 := T.f 1 0 rfl rfl
          have f1 := T.f 1 1 rfl rfl
          have f2 := T.f 1 2 rfl rfl
          have f3 := T.f 1 3 rfl rfl
          have f4 := T.f 1 4 rfl rfl
          have f5 := T.f 1 5 rfl rfl
          have f6 := T.f 1 6 rfl rfl
          have f7 := T.f 1 7 rfl rfl
          have f8 := T.f 1 8 rfl rfl
          have f9 := T.f 1 9 rfl rfl
          have S9 := (T.keepBoxes [(w.heap.size, z10)] (by simp)).setM (.int .i64 0) (.int .i64 0) (.int .i64 0) (.int .i64 0) (.int .i64 0) (.int .i64 0) (.int .i64 0) (.bool false) (.slice none 0 0) (.slice none 0 0) (Nat.le_refl _) (by simp)
          go_wp2_with fail
          exact bodyPost_ret (v := .tuple #[.agg #[.int .i64 0, .int .i64 0, .int .i64 0, .int .i64 0, .int .i64 0, .int .i64 0, .int .i64 0, .bool false, .slice none 0 0, .slice none 0 0], .int .i64 5]) (by simp [results, Try.results13, go_sem, r0, r1, r2, r3, r4, r5, r6, r7, r8, r9]) rfl (hfail.out _ _ S9.b)
    · have hc1 : chk (bx.drop 4) = true := by simpa using hc
      have hf1 : fl1 (bx.drop 4) = 0 ∧ fl2 (bx.drop 4) = 0 := by
        unfold chk at hc1
        simpa using hc1
      rw [hf1.1, hf1.2] at CK
      have hF : Fin bs ⟨t, 0, uintB (bx.take 4), 0, ldecV (bx.drop 4)⟩ (ldecE (bx.drop 4)) := by
        refine fin_of hD.out ?_ (fun _ _ => by unfold unpR; rw [if_neg ht1])
        have hR : unpR (t, bx) = ⟨t, 0, uintB (bx.take 4), 0, ldecV (bx.drop 4)⟩ := by unfold unpR; rw [if_neg ht1]
        unfold unpE1
        rw [if_neg ht1, if_pos ht2, if_neg (by simp only; omega), if_neg hc, hR]
        by_cases hy : ldecE (bx.drop 4) = 0
        · by_cases hm : msB ⟨t, 0, uintB (bx.take 4), 0, ldecV (bx.drop 4)⟩ = true
          · rw [if_pos hm, if_pos ⟨hy, hm⟩]
          · rw [if_neg hm, if_neg (fun h => hm h.2)]
        · have hz := ldecE_bad hy hc1
          rw [hz, hmz, if_neg (by simp), if_neg (fun h => hy h.1)]
      unfold LdecPost at LD
      generalize uintB (bx.take 4) = q1 at *
      generalize ldecV (bx.drop 4) = y at *
      generalize ldecE (bx.drop 4) = ye at *
      replace CK := Lib.hid CK
      replace LD := Lib.hid LD
      replace U1 := Lib.hid U1
      replace hF := Lib.hid hF
      clear h4 hr4 hl4 hc hc1 hf1 hmz ht1 ht2
      rcases tt with ⟨t2, t3⟩ | ⟨t2, t3⟩
      all_goals
        have e0 := T.f 0 0 rfl rfl
        have e1 := T.f 0 1 rfl rfl
        have e2 := T.f 0 2 rfl rfl
        have e3 := T.f 0 3 rfl rfl
        have e4 := T.f 0 4 rfl rfl
        have e5 := T.f 0 5 rfl rfl
        have e6 := T.f 0 6 rfl rfl
        have e7 := T.f 0 7 rfl rfl
        have e8 := T.f 0 8 rfl rfl
        have e9 := T.f 0 9 rfl rfl
        go_wp2_with fail
        (with_reducible refine (CK.out _ k1').mono ?_)
        rintro e w4 ⟨rfl, rfl⟩
        go_wp2_with fail
        (with_reducible refine (U1.out _ k1').mono ?_)
        rintro e w4 ⟨rfl, rfl⟩
        have k2' := hval.out _ k1' 2 (.int .i64 (q1 : Int))
        have T2 := T.set 0 2 (.int .i64 (q1 : Int)) rfl (by simp) (by omega) (by simp; omega) _ rfl
        go_upto_region 11 with fail
        clear a0 a1 a2 a3 a4 a5 a6 a7 a8 a9
        clear e0 e1 e2 e3 e4 e5 e6 e7 e8 e9
        clear k1' U1 CK T
        generalize World.setCell _ _ _ = w4 at *
        go_wp2_with fail
        (with_reducible refine (LD.out _ k2').mono ?_)
        rintro e w5 ⟨v5, rfl, hown, hb⟩
        clear LD k2'
        have hsz4 := T2.lt 0 rfl (by simp)
        replace T2 := T2.call hb
        have hsz5 := hb.size
        clear hb
        obtain ⟨A5, c5, B5, d5, rfl, o1, o2, hu⟩ := hown
        have a0 := T2.c 0 0 rfl rfl
        have a1 := T2.c 0 1 rfl rfl
        have a2 := T2.c 0 2 rfl rfl
        have a3 := T2.c 0 3 rfl rfl
        have a4 := T2.c 0 4 rfl rfl
        have a5 := T2.c 0 5 rfl rfl
        have a6 := T2.c 0 6 rfl rfl
        have a7 := T2.c 0 7 rfl rfl
        have a8 := T2.c 0 8 rfl rfl
        have a9 := T2.c 0 9 rfl rfl
        have e0 := T2.f 0 0 rfl rfl
        have e1 := T2.f 0 1 rfl rfl
        have e2 := T2.f 0 2 rfl rfl
        have e3 := T2.f 0 3 rfl rfl
        have e4 := T2.f 0 4 rfl rfl
        have e5 := T2.f 0 5 rfl rfl
        have e6 := T2.f 0 6 rfl rfl
        have e7 := T2.f 0 7 rfl rfl
        have e8 := T2.f 0 8 rfl rfl
        have e9 := T2.f 0 9 rfl rfl
        have T := (((((T2.set 0 4 (.int .i64 y.o) rfl (by simp) (by omega) (by simp; omega) _ rfl).set 0 5 (.int .i64 y.s) rfl (by simp) (by omega) (by simp; omega) _ rfl).set 0 6 (.int .i64 y.a) rfl (by simp) (by omega) (by simp; omega) _ rfl).set 0 7 (.bool y.ov) rfl (by simp) (by omega) (by simp; omega) _ rfl).set 0 8 (.slice A5 y.adj.length c5) rfl (by simp) (by omega) (by simp; omega) _ rfl).set 0 9 (.slice B5 y.pre.length d5) rfl (by simp) (by omega) (by simp; omega) _ rfl
        have p1 := own_setO o1 hsz4 (.int .i64 y.o) (.int .i64 y.s) (.int .i64 y.a) (.bool y.ov) (.slice A5 y.adj.length c5) (.slice B5 y.pre.length d5)
        have p2 := own_setO o2 hsz4 (.int .i64 y.o) (.int .i64 y.s) (.int .i64 y.a) (.bool y.ov) (.slice A5 y.adj.length c5) (.slice B5 y.pre.length d5)
        go_upto_region 14 with fail
        clear a0 a1 a2 a3 a4 a5 a6 a7 a8 a9
        clear e0 e1 e2 e3 e4 e5 e6 e7 e8 e9
        clear o1 o2 T2
        generalize World.setCell _ _ _ = w6 at *
        have hlo : LaOwn w6 (g4 + 1) (laV y.o y.s y.a y.ov A5 y.adj.length c5 B5 y.pre.length d5) y := ⟨A5, c5, B5, d5, rfl, own_mono p1 (by omega), own_mono p2 (by omega), hu⟩
        clear p1 p2 hu
        have VA : ∀ W, LaAt W (.agg #[.int .i64 y.o, .int .i64 y.s, .int .i64 y.a, .bool y.ov, .slice A5 y.adj.length c5, .slice B5 y.pre.length d5]) y → Calls Try.prog 9 #[.agg #[.int .i64 t, .int .i64 0, .int .i64 q1, .int .i64 0, .int .i64 y.o, .int .i64 y.s, .int .i64 y.a, .bool y.ov, .slice A5 y.adj.length c5, .slice B5 y.pre.length d5]] W fun e w' => e = .returned (.bool (msB ⟨t, 0, q1, 0, y⟩)) ∧ Below W.heap.size W w' := fun W h => rmvalid_any W _ ⟨t, 0, q1, 0, y⟩ ⟨A5, c5, B5, d5, rfl, h⟩
        have PA : msB ⟨t, 0, q1, 0, y⟩ = true → msEnc ⟨t, 0, q1, 0, y⟩ = bs → ∀ W, LaAt W (.agg #[.int .i64 y.o, .int .i64 y.s, .int .i64 y.a, .bool y.ov, .slice A5 y.adj.length c5, .slice B5 y.pre.length d5]) y → Calls Try.prog 10 #[.agg #[.int .i64 t, .int .i64 0, .int .i64 q1, .int .i64 0, .int .i64 y.o, .int .i64 y.s, .int .i64 y.a, .bool y.ov, .slice A5 y.adj.length c5, .slice B5 y.pre.length d5]] W fun e w' => ∃ A c, e = .returned (.slice A bs.length c) ∧ w'.ownsRow W.heap.size 5 1 (.slice A bs.length c) bs.length (bs.map u8v) ∧ Below W.heap.size W w' := fun hm he W h => by
          have := rpack_any W _ ⟨t, 0, q1, 0, y⟩ ⟨A5, c5, B5, d5, rfl, h⟩ hm
          unfold RPackPost at this
          rw [he] at this
          exact this
        have hla := hlo.at
        have hxt := hex.out
        by_cases hye : ¬ ye = 0
        · obtain ⟨e1, e2⟩ := hF.out.bad (fun h => hye h.1) hxt
          obtain rfl : E = 4 := by rw [← hE0.out]; exact e1
          obtain rfl : V = msZero := by rw [← hV0.out]; exact e2
          have hyb : (ye != 0) = true := by simpa using hye
          clear VA PA hla hlo hF hE0 hV0 e1 e2 hye hxt
          refine wp_region_quiet_below (by kernel_rfl) (by kernel_rfl) ?_
          repeat (go_big_quiet_step (fail))
          refine wpQuiet_nil ?_
          intro _ hw'
          obtain ⟨⟨dq, osq⟩, hw''⟩ := hw'
          subst hw''
          replace T := T.call (below_regrown _ dq osq)
          have r0 := T.c 1 0 rfl rfl
          have r1 := T.c 1 1 rfl rfl
          have r2 := T.c 1 2 rfl rfl
          have r3 := T.c 1 3 rfl rfl
          have r4 := T.c 1 4 rfl rfl
          have r5 := T.c 1 5 rfl rfl
          have r6 := T.c 1 6 rfl rfl
          have r7 := T.c 1 7 rfl rfl
          have r8 := T.c 1 8 rfl rfl
          have r9 := T.c 1 9 rfl rfl
          have f0 := T.f 1 0 rfl rfl
          have f1 := T.f 1 1 rfl rfl
          have f2 := T.f 1 2 rfl rfl
          have f3 := T.f 1 3 rfl rfl
          have f4 := T.f 1 4 rfl rfl
          have f5 := T.f 1 5 rfl rfl
          have f6 := T.f 1 6 rfl rfl
          have f7 := T.f 1 7 rfl rfl
          have f8 := T.f 1 8 rfl rfl
          have f9 := T.f 1 9 rfl rfl
          have S9 := (T.keepBoxes [(w.heap.size, z10)] (by simp)).setM (.int .i64 0) (.int .i64 0) (.int .i64 0) (.int .i64 0) (.int .i64 0) (.int .i64 0) (.int .i64 0) (.bool false) (.slice none 0 0) (.slice none 0 0) (Nat.le_refl _) (by simp)
          go_wp2_with fail
          exact bodyPost_ret (v := .tuple #[.agg #[.int .i64 0, .int .i64 0, .int .i64 0, .int .i64 0, .int .i64 0, .int .i64 0, .int .i64 0, .bool false, .slice none 0 0, .slice none 0 0], .int .i64 4]) (by simp [results, Try.results13, go_sem, r0, r1, r2, r3, r4, r5, r6, r7, r8, r9]) rfl (hfail.out _ _ S9.b)
        have hye0 : ye = 0 := Decidable.not_not.1 hye
        subst hye0
        clear hye
        rcases hm : msB ⟨t, 0, q1, 0, y⟩ with _ | _
        · obtain ⟨e1, e2⟩ := hF.out.bad (fun h => by rw [hm] at h; cases h.2) hxt
          obtain rfl : E = 4 := by rw [← hE0.out]; exact e1
          obtain rfl : V = msZero := by rw [← hV0.out]; exact e2
          rw [hm] at VA
          replace VA := Lib.hid VA
          replace hla := Lib.hid hla
          clear PA hlo hF hE0 hV0 e1 e2 hxt hm
          have a0 := cell_regrown (T.c 0 0 rfl rfl)
          have a1 := cell_regrown (T.c 0 1 rfl rfl)
          have a2 := cell_regrown (T.c 0 2 rfl rfl)
          have a3 := cell_regrown (T.c 0 3 rfl rfl)
          have a4 := cell_regrown (T.c 0 4 rfl rfl)
          have a5 := cell_regrown (T.c 0 5 rfl rfl)
          have a6 := cell_regrown (T.c 0 6 rfl rfl)
          have a7 := cell_regrown (T.c 0 7 rfl rfl)
          have a8 := cell_regrown (T.c 0 8 rfl rfl)
          have a9 := cell_regrown (T.c 0 9 rfl rfl)
          refine wp_region_quiet_below (by kernel_rfl) (by kernel_rfl) ?_
          repeat (go_big_quiet_step ((go_at_call 9; with_reducible exact Calls.regrown_of (VA.out _ (hla.out.below (below_regrown _ _ _))))))
          refine wpQuiet_nil ?_
          intro _ hw'
          obtain ⟨⟨dq, osq⟩, hw''⟩ := hw'
          subst hw''
          clear a0 a1 a2 a3 a4 a5 a6 a7 a8 a9
          replace T := T.call (below_regrown _ dq osq)
          have r0 := T.c 1 0 rfl rfl
          have r1 := T.c 1 1 rfl rfl
          have r2 := T.c 1 2 rfl rfl
          have r3 := T.c 1 3 rfl rfl
          have r4 := T.c 1 4 rfl rfl
          have r5 := T.c 1 5 rfl rfl
          have r6 := T.c 1 6 rfl rfl
          have r7 := T.c 1 7 rfl rfl
          have r8 := T.c 1 8 rfl rfl
          have r9 := T.c 1 9 rfl rfl
          have f0 := T.f 1 0 rfl rfl
          have f1 := T.f 1 1 rfl rfl
          have f2 := T.f 1 2 rfl rfl
          have f3 := T.f 1 3 rfl rfl
          have f4 := T.f 1 4 rfl rfl
          have f5 := T.f 1 5 rfl rfl
          have f6 := T.f 1 6 rfl rfl
          have f7 := T.f 1 7 rfl rfl
          have f8 := T.f 1 8 rfl rfl
          have f9 := T.f 1 9 rfl rfl
          have S9 := (T.keepBoxes [(w.heap.size, z10)] (by simp)).setM (.int .i64 0) (.int .i64 0) (.int .i64 0) (.int .i64 0) (.int .i64 0) (.int .i64 0) (.int .i64 0) (.bool false) (.slice none 0 0) (.slice none 0 0) (Nat.le_refl _) (by simp)
          go_wp2_with fail
          exact bodyPost_ret (v := .tuple #[.agg #[.int .i64 0, .int .i64 0, .int .i64 0, .int .i64 0, .int .i64 0, .int .i64 0, .int .i64 0, .bool false, .slice none 0 0, .slice none 0 0], .int .i64 4]) (by simp [results, Try.results13, go_sem, r0, r1, r2, r3, r4, r5, r6, r7, r8, r9]) rfl (hfail.out _ _ S9.b)
        · obtain ⟨e1, e2⟩ := hF.out.2 rfl hm
          obtain rfl : E = 0 := by rw [← hE0.out, hF.out.1, if_pos ⟨rfl, hm⟩]
          obtain rfl : V = ⟨t, 0, q1, 0, y⟩ := by rw [← hV0.out]; exact e1
          have PB := PA hm e2
          rw [hm] at VA
          replace VA := Lib.hid VA
          replace PB := Lib.hid PB
          replace hla := Lib.hid hla.drew'
          replace hlo := Lib.hid hlo.drew'
          clear PA hF hE0 hV0 e1 e2 hxt hm
          have U := T.drew
          have a0 := U.c 0 0 rfl rfl
          have a1 := U.c 0 1 rfl rfl
          have a2 := U.c 0 2 rfl rfl
          have a3 := U.c 0 3 rfl rfl
          have a4 := U.c 0 4 rfl rfl
          have a5 := U.c 0 5 rfl rfl
          have a6 := U.c 0 6 rfl rfl
          have a7 := U.c 0 7 rfl rfl
          have a8 := U.c 0 8 rfl rfl
          have a9 := U.c 0 9 rfl rfl
          have tok1 : True := trivial
          have tok2 : True := trivial
          go_region_law
            (first
              | (clear tok1; rw [if_pos (by simp [Region.wanted, yielded])]; go_simp; (with_reducible refine (VA.out _ hla.out).mono ?_); rintro e wa ⟨rfl, hba⟩; dsimp only; replace U := U.call hba; replace hla := Lib.hid (hla.out.below hba); replace hlo := Lib.hid (hlo.out.below hba); clear hba; have a0 := U.c 0 0 rfl rfl; have a1 := U.c 0 1 rfl rfl; have a2 := U.c 0 2 rfl rfl; have a3 := U.c 0 3 rfl rfl; have a4 := U.c 0 4 rfl rfl; have a5 := U.c 0 5 rfl rfl; have a6 := U.c 0 6 rfl rfl; have a7 := U.c 0 7 rfl rfl; have a8 := U.c 0 8 rfl rfl; have a9 := U.c 0 9 rfl rfl; have cv := conv_bytes wa Try.underlying30 Try.underlying5 Try.underlying9 (cap := cap) (U.r 0 rfl) hn.out)
              | (clear tok2; rw [if_pos (by simp [Region.wanted, yielded])]; go_simp; (with_reducible refine (PB.out _ hla.out).mono ?_); rintro e wb ⟨AY, cY, rfl, oY, hbb⟩; dsimp only; replace U := U.call hbb; replace hlo := Lib.hid (hlo.out.below hbb); clear hbb; have cv := conv_bytes wb Try.underlying30 Try.underlying5 Try.underlying9 (cap := cap) (U.r 0 rfl) hn.out; have cw := conv_bytes wb Try.underlying30 Try.underlying5 Try.underlying9 (cap := cY) (own_rdp oY).1 rfl))
          all_goals
            obtain ⟨A9, c9, B9, d9, e9, o1, o2, hu⟩ := hlo.out
            have S9 := (U.keepBoxes [(w.heap.size, z10)] (by simp)).setM (.int .i64 t) (.int .i64 0) (.int .i64 q1) (.int .i64 0) (.int .i64 y.o) (.int .i64 y.s) (.int .i64 y.a) (.bool y.ov) (.slice A5 y.adj.length c5) (.slice B5 y.pre.length d5) (Nat.le_refl _) (by simp)
            have p1 := own_setM o1 (g := w.heap.size) (by omega) (.int .i64 t) (.int .i64 0) (.int .i64 q1) (.int .i64 0) (.int .i64 y.o) (.int .i64 y.s) (.int .i64 y.a) (.bool y.ov) (.slice A5 y.adj.length c5) (.slice B5 y.pre.length d5)
            have p2 := own_setM o2 (g := w.heap.size) (by omega) (.int .i64 t) (.int .i64 0) (.int .i64 q1) (.int .i64 0) (.int .i64 y.o) (.int .i64 y.s) (.int .i64 y.a) (.bool y.ov) (.slice A5 y.adj.length c5) (.slice B5 y.pre.length d5)
            have a0 := U.c 0 0 rfl rfl
            have a1 := U.c 0 1 rfl rfl
            have a2 := U.c 0 2 rfl rfl
            have a3 := U.c 0 3 rfl rfl
            have a4 := U.c 0 4 rfl rfl
            have a5 := U.c 0 5 rfl rfl
            have a6 := U.c 0 6 rfl rfl
            have a7 := U.c 0 7 rfl rfl
            have a8 := U.c 0 8 rfl rfl
            have a9 := U.c 0 9 rfl rfl
            have r0 := U.c 1 0 rfl rfl
            have r1 := U.c 1 1 rfl rfl
            have r2 := U.c 1 2 rfl rfl
            have r3 := U.c 1 3 rfl rfl
            have r4 := U.c 1 4 rfl rfl
            have r5 := U.c 1 5 rfl rfl
            have r6 := U.c 1 6 rfl rfl
            have r7 := U.c 1 7 rfl rfl
            have r8 := U.c 1 8 rfl rfl
            have r9 := U.c 1 9 rfl rfl
            have f0 := U.f 1 0 rfl rfl
            have f1 := U.f 1 1 rfl rfl
            have f2 := U.f 1 2 rfl rfl
            have f3 := U.f 1 3 rfl rfl
            have f4 := U.f 1 4 rfl rfl
            have f5 := U.f 1 5 rfl rfl
            have f6 := U.f 1 6 rfl rfl
            have f7 := U.f 1 7 rfl rfl
            have f8 := U.f 1 8 rfl rfl
            have f9 := U.f 1 9 rfl rfl
            go_wp2_with fail
            exact bodyPost_ret (v := .tuple #[.agg #[.int .i64 t, .int .i64 0, .int .i64 q1, .int .i64 0, .int .i64 y.o, .int .i64 y.s, .int .i64 y.a, .bool y.ov, .slice A5 y.adj.length c5, .slice B5 y.pre.length d5], .int .i64 0]) (by simp [results, Try.results13, go_sem, r0, r1, r2, r3, r4, r5, r6, r7, r8, r9]) rfl ⟨_, rfl, ⟨A5, c5, B5, d5, rfl, ⟨A9, c9, B9, d9, e9, own_mono p1 (by omega), own_mono p2 (by omega), hu⟩⟩, S9.b⟩
  by_cases h10 : bx.length = 10
  · have ht23 : ¬ (t = 2 ∨ t = 3) := fun h => hA ⟨h, by omega⟩
    obtain rfl : nx = 10 := by rw [← k2.out, h10]
    have t2 : (t == 2) = false := by simp; omega
    have t3 : (t == 3) = false := by simp; omega
    have hF : Fin bs ⟨t, uintB (bx.take 2), uintB ((bx.drop 2).take 4), uintB (bx.drop 6), laZero⟩ 0 := by
      have e6 : (bx.drop 6).take 4 = bx.drop 6 := List.take_of_length_le (by rw [List.length_drop]; omega)
      by_cases ht1 : t = 1
      · subst ht1
        have hR : unpR (1, bx) = ⟨1, uintB (bx.take 2), uintB ((bx.drop 2).take 4), uintB (bx.drop 6), laZero⟩ := by unfold unpR; rw [if_pos rfl, e6]
        refine fin_of hD.out ?_ (fun _ _ => hR)
        unfold unpE1
        rw [if_pos rfl, hR]
        by_cases hm : msB ⟨1, uintB (bx.take 2), uintB ((bx.drop 2).take 4), uintB (bx.drop 6), laZero⟩ = true
        · rw [if_pos ⟨h10, hm⟩, if_pos ⟨rfl, hm⟩]
        · rw [if_neg (fun h => hm h.2), if_neg (fun h => hm h.2)]
      · have hz : msB ⟨t, uintB (bx.take 2), uintB ((bx.drop 2).take 4), uintB (bx.drop 6), laZero⟩ = false := msB_zero _ _ _ _ ht1
        refine fin_of hD.out ?_ (fun _ h => by rw [hz] at h; cases h)
        unfold unpE1
        rw [if_neg ht1, if_neg ht23, hz, if_neg (by simp)]
    have hs2 : ∀ W, (Instr.slice 30 (.slice X 10 cx) none (some (.int .i64 2)) none).run Try.prog W = .ok (.slice X 2 cx) W := fun W => run_upto bytesT X 10 cx 2 (by omega) W
    have hs26 : ∀ W, (Instr.slice 30 (.slice X 10 cx) (some (.int .i64 2)) (some (.int .i64 6)) none).run Try.prog W = .ok (.slice (subA X 2 cx) 4 (cx - 2)) W := fun W => run_sub bytesT X 10 cx 2 6 (by omega) (by omega) W
    have hs6 : ∀ W, (Instr.slice 30 (.slice X 10 cx) (some (.int .i64 6)) none none).run Try.prog W = .ok (.slice (subA X 6 cx) 4 (cx - 6)) W := fun W => run_from bytesT X 10 cx 6 (by omega) W
    have kd := k1'.drew
    have b2 := kd.take 2
    rw [← List.map_take] at b2
    have b26 := (Rd.sub kd 2 cx (by simp; omega)).take 4
    rw [← List.map_drop, ← List.map_take] at b26
    have b6 := Rd.sub kd 6 cx (by simp; omega)
    rw [← List.map_drop] at b6
    have U1 := ruint_any X 2 cx (bx.take 2) _ b2 (by rw [List.length_take]; omega) (by omega)
    have U2 := ruint_any (subA X 2 cx) 4 (cx - 2) ((bx.drop 2).take 4) _ b26 (by rw [List.length_take, List.length_drop]; omega) (by omega)
    have U3 := ruint_any (subA X 6 cx) 4 (cx - 6) (bx.drop 6) _ b6 (by rw [List.length_drop]; omega) (by omega)
    have hq1 := uintB_small (bs := bx.take 2) (by rw [List.length_take]; omega)
    have hq2 := uintB_small (bs := (bx.drop 2).take 4) (by rw [List.length_take]; omega)
    have hq3 := uintB_small (bs := bx.drop 6) (by rw [List.length_drop]; omega)
    generalize subA X 2 cx = X2 at *
    generalize subA X 6 cx = X6 at *
    generalize uintB (bx.take 2) = q1 at *
    generalize uintB ((bx.drop 2).take 4) = q2 at *
    generalize uintB (bx.drop 6) = q3 at *
    have hw1 : IntKind.i64.wrap (q1 : Int) = (q1 : Int) := IntWalk.i64_in _ (by omega)
    have hw2 : IntKind.i64.wrap (q2 : Int) = (q2 : Int) := IntWalk.i64_in _ (by omega)
    have hw3 : IntKind.i64.wrap (q3 : Int) = (q3 : Int) := IntWalk.i64_in _ (by omega)
    clear kd b2 b26 b6 h10 hA ht23 k1' hq1 hq2 hq3
    replace U1 := Lib.hid U1
    replace U2 := Lib.hid U2
    replace U3 := Lib.hid U3
    replace hF := Lib.hid hF
    go_upto_region 13 with fail
    have b1 := T.c 0 1 rfl rfl
    have b2 := T.c 0 2 rfl rfl
    have b3 := T.c 0 3 rfl rfl
    have g1 := T.f 0 1 rfl rfl
    have g2 := T.f 0 2 rfl rfl
    have g3' := T.f 0 3 rfl rfl
    clear a0 a1 a2 a3 a4 a5 a6 a7 a8 a9
    have Td := T.drew
    have a0 := Td.c 0 0 rfl rfl
    have a1 := Td.c 0 1 rfl rfl
    have a2 := Td.c 0 2 rfl rfl
    have a3 := Td.c 0 3 rfl rfl
    have a4 := Td.c 0 4 rfl rfl
    have a5 := Td.c 0 5 rfl rfl
    have a6 := Td.c 0 6 rfl rfl
    have a7 := Td.c 0 7 rfl rfl
    have a8 := Td.c 0 8 rfl rfl
    have a9 := Td.c 0 9 rfl rfl
    have e0 := Td.f 0 0 rfl rfl
    have e1 := Td.f 0 1 rfl rfl
    have e2 := Td.f 0 2 rfl rfl
    have e3 := Td.f 0 3 rfl rfl
    have e4 := Td.f 0 4 rfl rfl
    have e5 := Td.f 0 5 rfl rfl
    have e6 := Td.f 0 6 rfl rfl
    have e7 := Td.f 0 7 rfl rfl
    have e8 := Td.f 0 8 rfl rfl
    have e9 := Td.f 0 9 rfl rfl
    have tok1 : True := trivial
    have tok2 : True := trivial
    have tok3 : True := trivial
    go_region_law
      (first
        | (clear tok1; rw [if_pos (by simp [Region.wanted])]; go_simp; (with_reducible refine U1.out.mono ?_); rintro e w5 ⟨rfl, rfl⟩; dsimp only)
        | (clear tok2; rw [if_pos (by simp [Region.wanted])]; go_simp; (with_reducible refine U2.out.mono ?_); rintro e w5 ⟨rfl, rfl⟩; dsimp only)
        | (clear tok3; rw [if_pos (by simp [Region.wanted])]; go_simp; (with_reducible refine U3.out.mono ?_); rintro e w5 ⟨rfl, rfl⟩; dsimp only))
    all_goals
      have T2 := (((T.set 0 1 (.int .i64 (q1 : Int)) rfl (by simp) (by omega) (by simp; omega) _ rfl).set 0 2 (.int .i64 (q2 : Int)) rfl (by simp) (by omega) (by simp; omega) _ rfl).set 0 3 (.int .i64 (q3 : Int)) rfl (by simp) (by omega) (by simp; omega) _ rfl).drew
      clear a0 a1 a2 a3 a4 a5 a6 a7 a8 a9
      clear e0 e1 e2 e3 e4 e5 e6 e7 e8 e9
      clear b1 b2 b3 g1 g2 g3' Td T hs2 hs26 hs6
      go_upto_region 14 with fail
      generalize World.drew (World.setCell _ _ _) = w6 at *
      have T := T2
      clear T2
      have hlo : LaOwn w6 (g4 + 1) (.agg #[.int .i64 0, .int .i64 0, .int .i64 0, .bool false, .slice none 0 0, .slice none 0 0]) laZero := laZero_own _ _
      have VA : ∀ W, LaAt W (.agg #[.int .i64 0, .int .i64 0, .int .i64 0, .bool false, .slice none 0 0, .slice none 0 0]) laZero → Calls Try.prog 9 #[.agg #[.int .i64 t, .int .i64 q1, .int .i64 q2, .int .i64 q3, .int .i64 0, .int .i64 0, .int .i64 0, .bool false, .slice none 0 0, .slice none 0 0]] W fun e w' => e = .returned (.bool (msB ⟨t, q1, q2, q3, laZero⟩)) ∧ Below W.heap.size W w' := fun W h => rmvalid_any W _ ⟨t, q1, q2, q3, laZero⟩ ⟨none, 0, none, 0, rfl, h⟩
      have PA : msB ⟨t, q1, q2, q3, laZero⟩ = true → msEnc ⟨t, q1, q2, q3, laZero⟩ = bs → ∀ W, LaAt W (.agg #[.int .i64 0, .int .i64 0, .int .i64 0, .bool false, .slice none 0 0, .slice none 0 0]) laZero → Calls Try.prog 10 #[.agg #[.int .i64 t, .int .i64 q1, .int .i64 q2, .int .i64 q3, .int .i64 0, .int .i64 0, .int .i64 0, .bool false, .slice none 0 0, .slice none 0 0]] W fun e w' => ∃ A c, e = .returned (.slice A bs.length c) ∧ w'.ownsRow W.heap.size 5 1 (.slice A bs.length c) bs.length (bs.map u8v) ∧ Below W.heap.size W w' := fun hm he W h => by
        have := rpack_any W _ ⟨t, q1, q2, q3, laZero⟩ ⟨none, 0, none, 0, rfl, h⟩ hm
        unfold RPackPost at this
        rw [he] at this
        exact this
      have hla := hlo.at
      have hxt := hex.out
      rcases hm : msB ⟨t, q1, q2, q3, laZero⟩ with _ | _
      · obtain ⟨e1, e2⟩ := hF.out.bad (fun h => by rw [hm] at h; cases h.2) hxt
        obtain rfl : E = 4 := by rw [← hE0.out]; exact e1
        obtain rfl : V = msZero := by rw [← hV0.out]; exact e2
        rw [hm] at VA
        replace VA := Lib.hid VA
        replace hla := Lib.hid hla
        clear PA hlo hF hE0 hV0 e1 e2 hxt hm
        have a0 := cell_regrown (T.c 0 0 rfl rfl)
        have a1 := cell_regrown (T.c 0 1 rfl rfl)
        have a2 := cell_regrown (T.c 0 2 rfl rfl)
        have a3 := cell_regrown (T.c 0 3 rfl rfl)
        have a4 := cell_regrown (T.c 0 4 rfl rfl)
        have a5 := cell_regrown (T.c 0 5 rfl rfl)
        have a6 := cell_regrown (T.c 0 6 rfl rfl)
        have a7 := cell_regrown (T.c 0 7 rfl rfl)
        have a8 := cell_regrown (T.c 0 8 rfl rfl)
        have a9 := cell_regrown (T.c 0 9 rfl rfl)
        refine wp_region_quiet_below (by kernel_rfl) (by kernel_rfl) ?_
        repeat (go_big_quiet_step ((go_at_call 9; with_reducible exact Calls.regrown_of (VA.out _ (hla.out.below (below_regrown _ _ _))))))
        refine wpQuiet_nil ?_
        intro _ hw'
        obtain ⟨⟨dq, osq⟩, hw''⟩ := hw'
        subst hw''
        clear a0 a1 a2 a3 a4 a5 a6 a7 a8 a9
        replace T := T.call (below_regrown _ dq osq)
        have r0 := T.c 1 0 rfl rfl
        have r1 := T.c 1 1 rfl rfl
        have r2 := T.c 1 2 rfl rfl
        have r3 := T.c 1 3 rfl rfl
        have r4 := T.c 1 4 rfl rfl
        have r5 := T.c 1 5 rfl rfl
        have r6 := T.c 1 6 rfl rfl
        have r7 := T.c 1 7 rfl rfl
        have r8 := T.c 1 8 rfl rfl
        have r9 := T.c 1 9 rfl rfl
        have f0 := T.f 1 0 rfl rfl
        have f1 := T.f 1 1 rfl rfl
        have f2 := T.f 1 2 rfl rfl
        have f3 := T.f 1 3 rfl rfl
        have f4 := T.f 1 4 rfl rfl
        have f5 := T.f 1 5 rfl rfl
        have f6 := T.f 1 6 rfl rfl
        have f7 := T.f 1 7 rfl rfl
        have f8 := T.f 1 8 rfl rfl
        have f9 := T.f 1 9 rfl rfl
        have S9 := (T.keepBoxes [(w.heap.size, z10)] (by simp)).setM (.int .i64 0) (.int .i64 0) (.int .i64 0) (.int .i64 0) (.int .i64 0) (.int .i64 0) (.int .i64 0) (.bool false) (.slice none 0 0) (.slice none 0 0) (Nat.le_refl _) (by simp)
        go_wp2_with fail
        exact bodyPost_ret (v := .tuple #[.agg #[.int .i64 0, .int .i64 0, .int .i64 0, .int .i64 0, .int .i64 0, .int .i64 0, .int .i64 0, .bool false, .slice none 0 0, .slice none 0 0], .int .i64 4]) (by simp [results, Try.results13, go_sem, r0, r1, r2, r3, r4, r5, r6, r7, r8, r9]) rfl (hfail.out _ _ S9.b)
      · obtain ⟨e1, e2⟩ := hF.out.2 rfl hm
        obtain rfl : E = 0 := by rw [← hE0.out, hF.out.1, if_pos ⟨rfl, hm⟩]
        obtain rfl : V = ⟨t, q1, q2, q3, laZero⟩ := by rw [← hV0.out]; exact e1
        have PB := PA hm e2
        rw [hm] at VA
        replace VA := Lib.hid VA
        replace PB := Lib.hid PB
        replace hla := Lib.hid hla.drew'
        replace hlo := Lib.hid hlo.drew'
        clear PA hF hE0 hV0 e1 e2 hxt hm
        have U := T.drew
        have a0 := U.c 0 0 rfl rfl
        have a1 := U.c 0 1 rfl rfl
        have a2 := U.c 0 2 rfl rfl
        have a3 := U.c 0 3 rfl rfl
        have a4 := U.c 0 4 rfl rfl
        have a5 := U.c 0 5 rfl rfl
        have a6 := U.c 0 6 rfl rfl
        have a7 := U.c 0 7 rfl rfl
        have a8 := U.c 0 8 rfl rfl
        have a9 := U.c 0 9 rfl rfl
        have tok1 : True := trivial
        have tok2 : True := trivial
        go_region_law
          (first
            | (clear tok1; rw [if_pos (by simp [Region.wanted, yielded])]; go_simp; (with_reducible refine (VA.out _ hla.out).mono ?_); rintro e wa ⟨rfl, hba⟩; dsimp only; replace U := U.call hba; replace hla := Lib.hid (hla.out.below hba); replace hlo := Lib.hid (hlo.out.below hba); clear hba; have a0 := U.c 0 0 rfl rfl; have a1 := U.c 0 1 rfl rfl; have a2 := U.c 0 2 rfl rfl; have a3 := U.c 0 3 rfl rfl; have a4 := U.c 0 4 rfl rfl; have a5 := U.c 0 5 rfl rfl; have a6 := U.c 0 6 rfl rfl; have a7 := U.c 0 7 rfl rfl; have a8 := U.c 0 8 rfl rfl; have a9 := U.c 0 9 rfl rfl; have cv := conv_bytes wa Try.underlying30 Try.underlying5 Try.underlying9 (cap := cap) (U.r 0 rfl) hn.out)
            | (clear tok2; rw [if_pos (by simp [Region.wanted, yielded])]; go_simp; (with_reducible refine (PB.out _ hla.out).mono ?_); rintro e wb ⟨AY, cY, rfl, oY, hbb⟩; dsimp only; replace U := U.call hbb; replace hlo := Lib.hid (hlo.out.below hbb); clear hbb; have cv := conv_bytes wb Try.underlying30 Try.underlying5 Try.underlying9 (cap := cap) (U.r 0 rfl) hn.out; have cw := conv_bytes wb Try.underlying30 Try.underlying5 Try.underlying9 (cap := cY) (own_rdp oY).1 rfl))
        all_goals
          obtain ⟨A9, c9, B9, d9, e9, o1, o2, hu⟩ := hlo.out
          have S9 := (U.keepBoxes [(w.heap.size, z10)] (by simp)).setM (.int .i64 t) (.int .i64 q1) (.int .i64 q2) (.int .i64 q3) (.int .i64 0) (.int .i64 0) (.int .i64 0) (.bool false) (.slice none 0 0) (.slice none 0 0) (Nat.le_refl _) (by simp)
          have p1 := own_setM o1 (g := w.heap.size) (by omega) (.int .i64 t) (.int .i64 q1) (.int .i64 q2) (.int .i64 q3) (.int .i64 0) (.int .i64 0) (.int .i64 0) (.bool false) (.slice none 0 0) (.slice none 0 0)
          have p2 := own_setM o2 (g := w.heap.size) (by omega) (.int .i64 t) (.int .i64 q1) (.int .i64 q2) (.int .i64 q3) (.int .i64 0) (.int .i64 0) (.int .i64 0) (.bool false) (.slice none 0 0) (.slice none 0 0)
          have a0 := U.c 0 0 rfl rfl
          have a1 := U.c 0 1 rfl rfl
          have a2 := U.c 0 2 rfl rfl
          have a3 := U.c 0 3 rfl rfl
          have a4 := U.c 0 4 rfl rfl
          have a5 := U.c 0 5 rfl rfl
          have a6 := U.c 0 6 rfl rfl
          have a7 := U.c 0 7 rfl rfl
          have a8 := U.c 0 8 rfl rfl
          have a9 := U.c 0 9 rfl rfl
          have r0 := U.c 1 0 rfl rfl
          have r1 := U.c 1 1 rfl rfl
          have r2 := U.c 1 2 rfl rfl
          have r3 := U.c 1 3 rfl rfl
          have r4 := U.c 1 4 rfl rfl
          have r5 := U.c 1 5 rfl rfl
          have r6 := U.c 1 6 rfl rfl
          have r7 := U.c 1 7 rfl rfl
          have r8 := U.c 1 8 rfl rfl
          have r9 := U.c 1 9 rfl rfl
          have f0 := U.f 1 0 rfl rfl
          have f1 := U.f 1 1 rfl rfl
          have f2 := U.f 1 2 rfl rfl
          have f3 := U.f 1 3 rfl rfl
          have f4 := U.f 1 4 rfl rfl
          have f5 := U.f 1 5 rfl rfl
          have f6 := U.f 1 6 rfl rfl
          have f7 := U.f 1 7 rfl rfl
          have f8 := U.f 1 8 rfl rfl
          have f9 := U.f 1 9 rfl rfl
          go_wp2_with fail
          exact bodyPost_ret (v := .tuple #[.agg #[.int .i64 t, .int .i64 q1, .int .i64 q2, .int .i64 q3, .int .i64 0, .int .i64 0, .int .i64 0, .bool false, .slice none 0 0, .slice none 0 0], .int .i64 0]) (by simp [results, Try.results13, go_sem, r0, r1, r2, r3, r4, r5, r6, r7, r8, r9]) rfl ⟨_, rfl, ⟨none, 0, none, 0, rfl, ⟨A9, c9, B9, d9, e9, own_mono p1 (by omega), own_mono p2 (by omega), hu⟩⟩, S9.b⟩
  · have hm : msB ⟨t, 0, 0, 0, laZero⟩ = false := by simp [msB, wiB]
    have hF : Fin bs ⟨t, 0, 0, 0, laZero⟩ 0 := by
      refine fin_of hD.out ?_ (fun _ h => by rw [hm] at h; cases h)
      rw [hm, if_neg (by simp)]
      unfold unpE1
      by_cases ht1 : t = 1
      · rw [if_pos ht1, if_neg (fun h => h10 h.1)]
      · rw [if_neg ht1]
        by_cases ht2 : t = 2 ∨ t = 3
        · rw [if_pos ht2, if_pos (by simp only; omega)]
        · rw [if_neg ht2]
    have n10 : ((nx : Int) == 10) = false := by have := k2.out; simp; omega
    have hway : (((t == 2) = true ∧ (t == 3) = false) ∨ ((t == 2) = false ∧ (t == 3) = true)) ∧ ¬ (4 : Int) ≤ nx ∨ ((t == 2) = false ∧ (t == 3) = false) := by
      by_cases ht2 : t = 2 ∨ t = 3
      · left
        have := k2.out
        refine ⟨?_, by omega⟩
        rcases ht2 with rfl | rfl <;> simp
      · right
        simp; omega
    have hlo : LaOwn w3 (g4 + 1) (.agg #[.int .i64 0, .int .i64 0, .int .i64 0, .bool false, .slice none 0 0, .slice none 0 0]) laZero := laZero_own _ _
    replace hF := Lib.hid hF
    clear h10 hA k1'
    have VA : ∀ W, LaAt W (.agg #[.int .i64 0, .int .i64 0, .int .i64 0, .bool false, .slice none 0 0, .slice none 0 0]) laZero → Calls Try.prog 9 #[.agg #[.int .i64 t, .int .i64 0, .int .i64 0, .int .i64 0, .int .i64 0, .int .i64 0, .int .i64 0, .bool false, .slice none 0 0, .slice none 0 0]] W fun e w' => e = .returned (.bool (msB ⟨t, 0, 0, 0, laZero⟩)) ∧ Below W.heap.size W w' := fun W h => rmvalid_any W _ ⟨t, 0, 0, 0, laZero⟩ ⟨none, 0, none, 0, rfl, h⟩
    have hla := hlo.at
    have hxt := hex.out

    obtain ⟨e1, e2⟩ := hF.out.bad (fun h => by rw [hm] at h; cases h.2) hxt
    obtain rfl : E = 4 := by rw [← hE0.out]; exact e1
    obtain rfl : V = msZero := by rw [← hV0.out]; exact e2
    rw [hm] at VA
    replace VA := Lib.hid VA
    replace hla := Lib.hid hla
    clear hlo hF hE0 hV0 e1 e2 hxt hm
    rcases hway with ⟨⟨t2, t3⟩ | ⟨t2, t3⟩, hnx⟩ | ⟨t2, t3⟩
    all_goals
      go_upto_region 14 with fail
      clear a0 a1 a2 a3 a4 a5 a6 a7 a8 a9
      have a0 := cell_regrown (T.c 0 0 rfl rfl)
      have a1 := cell_regrown (T.c 0 1 rfl rfl)
      have a2 := cell_regrown (T.c 0 2 rfl rfl)
      have a3 := cell_regrown (T.c 0 3 rfl rfl)
      have a4 := cell_regrown (T.c 0 4 rfl rfl)
      have a5 := cell_regrown (T.c 0 5 rfl rfl)
      have a6 := cell_regrown (T.c 0 6 rfl rfl)
      have a7 := cell_regrown (T.c 0 7 rfl rfl)
      have a8 := cell_regrown (T.c 0 8 rfl rfl)
      have a9 := cell_regrown (T.c 0 9 rfl rfl)
      refine wp_region_quiet_below (by kernel_rfl) (by kernel_rfl) ?_
      repeat (go_big_quiet_step ((go_at_call 9; with_reducible exact Calls.regrown_of (VA.out _ (hla.out.below (below_regrown _ _ _))))))
      refine wpQuiet_nil ?_
      intro _ hw'
      obtain ⟨⟨dq, osq⟩, hw''⟩ := hw'
      subst hw''
      clear a0 a1 a2 a3 a4 a5 a6 a7 a8 a9
      replace T := T.call (below_regrown _ dq osq)
      have r0 := T.c 1 0 rfl rfl
      have r1 := T.c 1 1 rfl rfl
      have r2 := T.c 1 2 rfl rfl
      have r3 := T.c 1 3 rfl rfl
      have r4 := T.c 1 4 rfl rfl
      have r5 := T.c 1 5 rfl rfl
      have r6 := T.c 1 6 rfl rfl
      have r7 := T.c 1 7 rfl rfl
      have r8 := T.c 1 8 rfl rfl
      have r9 := T.c 1 9 rfl rfl
      have f0 := T.f 1 0 rfl rfl
      have f1 := T.f 1 1 rfl rfl
      have f2 := T.f 1 2 rfl rfl
      have f3 := T.f 1 3 rfl rfl
      have f4 := T.f 1 4 rfl rfl
      have f5 := T.f 1 5 rfl rfl
      have f6 := T.f 1 6 rfl rfl
      have f7 := T.f 1 7 rfl rfl
      have f8 := T.f 1 8 rfl rfl
      have f9 := T.f 1 9 rfl rfl
      have S9 := (T.keepBoxes [(w.heap.size, z10)] (by simp)).setM (.int .i64 0) (.int .i64 0) (.int .i64 0) (.int .i64 0) (.int .i64 0) (.int .i64 0) (.int .i64 0) (.bool false) (.slice none 0 0) (.slice none 0 0) (Nat.le_refl _) (by simp)
      go_wp2_with fail
      exact bodyPost_ret (v := .tuple #[.agg #[.int .i64 0, .int .i64 0, .int .i64 0, .int .i64 0, .int .i64 0, .int .i64 0, .int .i64 0, .bool false, .slice none 0 0, .slice none 0 0], .int .i64 4]) (by simp [results, Try.results13, go_sem, r0, r1, r2, r3, r4, r5, r6, r7, r8, r9]) rfl (hfail.out _ _ S9.b)

end Go.Proofs.Ytdepfgalaicpeaa
