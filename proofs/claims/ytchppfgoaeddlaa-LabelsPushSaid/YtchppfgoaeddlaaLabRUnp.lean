/-
  The contract of the reference's Unpack.
-/
import Derived.Test.YtchppfgoaeddlaaLabPlain
namespace Go.Proofs.Ytchppfgoaeddlaa
set_option linter.unusedVariables false
open Go.RowKit

set_option maxHeartbeats 4000000 in
set_option maxRecDepth 100000 in
theorem runpack_any (A : Option Addr) (n cap : Nat) (bs : List UInt8) (w : World) (hr : Bs w A bs) (hn : bs.length = n) (hn2 : n ≤ 1000000) :
    Calls Try.prog 18 #[.slice A n cap] w fun e w' =>
      ∃ v, e = .returned (.tuple #[v, .int .i64 (unC bs), .int .i64 (unT bs), .int .i64 (unE bs)]) ∧ w'.ownsRow w.heap.size 30 2 v (unL bs).length (segs (unL bs)) ∧ Below w.heap.size w w' := by
  have bad : good bs = false → unC bs = 0 ∧ unT bs = 0 ∧ unE bs = 4 ∧ unL bs = [] := by
    intro h; simp [unC, unT, unE, unL, h]
  obtain ⟨L, hL⟩ : ∃ x, unL bs = x := ⟨_, rfl⟩
  obtain ⟨C, hC⟩ : ∃ x, unC bs = x := ⟨_, rfl⟩
  obtain ⟨T, hT⟩ : ∃ x, unT bs = x := ⟨_, rfl⟩
  obtain ⟨E, hE⟩ : ∃ x, unE bs = x := ⟨_, rfl⟩
  rw [hL, hC, hT, hE]
  rw [hL, hC, hT, hE] at bad
  replace hn := Lib.hid hn
  replace bad := Lib.hid bad
  replace hL := Lib.hid hL
  replace hC := Lib.hid hC
  replace hT := Lib.hid hT
  replace hE := Lib.hid hE
  have S := (St.start w).read hr
  by_cases h1 : n % 4 ≠ 0
  · obtain ⟨rfl, rfl, rfl, rfl⟩ := bad.out (by unfold good; rw [hn.out, show (n % 4 == 0) = false by simpa using h1]; rfl)
    have h1' : ((n : Int) % 4 != 0) = true := by simp; omega
    clear hn bad hL hC hT hE
    go_enter Try.func18, Try.ntmps18
    go_wp2_with fail
    exact bodyPost_ret (v := .tuple #[.slice none 0 0, .int .i64 0, .int .i64 0, .int .i64 4]) (by simp [results, Try.results18, go_sem]) rfl ⟨_, rfl, World.ownsRow_nil _ _ _ _, Below.refl _ _⟩
  replace h1 : n % 4 = 0 := by omega
  have h1' : ((n : Int) % 4 != 0) = false := by simp; omega
  by_cases h2 : ¬ n ≤ 128
  · obtain ⟨rfl, rfl, rfl, rfl⟩ := bad.out (by unfold good; rw [hn.out, show decide (n ≤ 128) = false by simpa using h2]; simp)
    clear hn bad hL hC hT hE
    go_enter Try.func18, Try.ntmps18
    go_wp2_with fail
    exact bodyPost_ret (v := .tuple #[.slice none 0 0, .int .i64 0, .int .i64 0, .int .i64 4]) (by simp [results, Try.results18, go_sem]) rfl ⟨_, rfl, World.ownsRow_nil _ _ _ _, Below.refl _ _⟩
  replace h2 : n ≤ 128 := by omega
  clear hr
  go_enter Try.func18, Try.ntmps18
  go_wp2_with fail
  go_loopw [6, 7, 8, 9] (fun v6 v7 v8 v9 wr => ∃ k i c t : Nat, i ≤ n ∧ v9 = .int .i64 i ∧ v7 = .int .i64 c ∧ v8 = .int .i64 t ∧ Hid (i = 4 * k) ∧ Hid (c = if k = 0 then 0 else clsI bs (4 * (k - 1))) ∧ Hid (t = if k = 0 then 0 else ttlI bs (4 * (k - 1))) ∧
    wr.ownsRow w.heap.size 30 2 v6 k (segs (unpL bs k)) ∧ Hid (known bs k = true) ∧ St w wr [] [(A, bs.map u8v)]) (fun v6 v7 v8 v9 _ => n - (intOf v9).toNat)
  case atStart => exact ⟨0, 0, 0, 0, by omega, rfl, rfl, rfl, rfl, rfl, rfl, World.ownsRow_nil _ _ _ _, rfl, S⟩
  case round =>
    clear S
    obtain ⟨k, i, c, t, hi, rfl, rfl, rfl, hk, hcc, htt, hown, hkn, S⟩ := hrel
    by_cases hin : i < n
    · clear hcc htt
      have hi3 : i + 3 < bs.length := by have := hk.out; have := hn.out; omega
      obtain ⟨b, off, rfl, c0, c1, c2, c3⟩ := rd_entry (S.r 0 rfl) hi3
      have q0 : ((numI bs i : Nat) : Int) = ((((at8 bs i : Int) * 256 + at8 bs (i + 1)) * 256 + at8 bs (i + 2)) * 256 + at8 bs (i + 3)) := by unfold numI; omega
      have q1 : ((numI bs i : Nat) : Int) / 4096 = (labI bs i : Nat) := by unfold labI; omega
      have q2 : ((numI bs i : Nat) : Int) / 512 % 8 = (clsI bs i : Nat) := by unfold clsI; omega
      have q3 : ((numI bs i : Nat) : Int) % 256 = (ttlI bs i : Nat) := by unfold ttlI; omega
      have l0 := at8_lt bs i
      have l1 := at8_lt bs (i + 1)
      have l2 := at8_lt bs (i + 2)
      have l3 := at8_lt bs (i + 3)
      have lN : numI bs i < 4294967296 := by unfold numI; omega
      rw [hn.out] at hi3
      obtain ⟨x0, e0⟩ : ∃ x, at8 bs i = x := ⟨_, rfl⟩
      obtain ⟨x1, e1⟩ : ∃ x, at8 bs (i + 1) = x := ⟨_, rfl⟩
      obtain ⟨x2, e2⟩ : ∃ x, at8 bs (i + 2) = x := ⟨_, rfl⟩
      obtain ⟨x3, e3⟩ : ∃ x, at8 bs (i + 3) = x := ⟨_, rfl⟩
      obtain ⟨nI, eN⟩ : ∃ x, numI bs i = x := ⟨_, rfl⟩
      rw [e0, e1, e2, e3, eN] at q0
      rw [eN] at q1 q2 q3 lN
      rw [e0] at c0 l0
      rw [e1] at c1 l1
      rw [e2] at c2 l2
      rw [e3] at c3 l3
      clear e0 e1 e2 e3 eN
      replace q0 := Lib.hid q0
      go_wp2_with fail
      go_region
      clear c0 c1 c2 c3
      rw [← q0.out]
      clear l0 l1 l2 l3 q0
      replace q2 := Lib.hid q2
      replace q3 := Lib.hid q3
      replace S := S.drew
      replace hown : wr.drew.ownsRow w.heap.size 30 2 u6 k (segs (unpL bs k)) := hown
      obtain ⟨lb, hlb⟩ : ∃ x, labI bs i = x := ⟨_, rfl⟩
      rw [hlb] at q1
      have D := fun W => rdecode_any lb W
      obtain ⟨p, hp⟩ : ∃ x, decK lb = x := ⟨_, rfl⟩
      obtain ⟨q, hq⟩ : ∃ x, decN lb = x := ⟨_, rfl⟩
      obtain ⟨e, he⟩ : ∃ x, decE lb = x := ⟨_, rfl⟩
      rw [hp, hq, he] at D
      have hL1 : Hid (unpL bs (k + 1) = unpL bs k ++ [(p, q)]) := by
        show _ = _
        rw [unpL_succ, ← hk.out]; simp only [segI, hlb, hp, hq]
      have hK1 : Hid (known bs (k + 1) = (e == 0)) := by
        show _ = _
        have := hkn.out
        unfold known at this ⊢
        rw [List.range_succ, List.all_append, this]
        simp only [Bool.true_and, List.all_cons, List.all_nil, Bool.and_true]
        rw [← hk.out, hlb, he]
      have hK2 : Hid (e ≠ 0 → good bs = false) := by
        intro hne
        have hkn1 : known bs (n / 4) = false := by
          unfold known
          rw [List.all_eq_false]
          refine ⟨k, List.mem_range.2 (by have := hk.out; omega), ?_⟩
          rw [← hk.out, hlb, he]
          simpa using hne
        unfold good
        rw [hn.out, hkn1]; simp
      replace D := Lib.hid D
      clear hp hq he hlb hkn
      replace q1 := Lib.hid q1
      go_wp2_with fail
      rw [q1.out]
      (with_reducible refine (D.out _).mono ?_)
      rintro e' w1 ⟨rfl, hb⟩
      replace S := (S.call hb).new' #[.int .i64 p, .int .i64 q] 30 w1.heap.size [.int .i64 p, .int .i64 q] rfl rfl
      replace hown := own_below (own_below hown hb) (below_new' w1 (.cells #[.int .i64 p, .int .i64 q] 30))
      clear hb D
      by_cases hz : e = 0
      · subst hz
        have g0 := S.c 0 0 rfl rfl
        have g1 := S.c 0 1 rfl rfl
        have hsz := S.b.size
        have hX := (own_below hown (below_new' _ (.cells #[.int .i64 p, .int .i64 q] 30)))
        have hY : Rd ((w1.alloc (.cells #[.int .i64 p, .int .i64 q] 30)).alloc (.cells #[.int .i64 p, .int .i64 q] 30)) (some ⟨w1.heap.size + 1, 0, none⟩) [.int .i64 p, .int .i64 q] := by
          have := Rd.lit (w1.alloc (.cells #[.int .i64 p, .int .i64 q] 30)) #[.int .i64 p, .int .i64 q] 30
          simpa using this
        have hk32 : k + 1 ≤ 33 := by have := hk.out; omega
        have hsz2 := (S.b.alloc S.b.size (.cells #[.int .i64 p, .int .i64 q] 30)).size
        go_wp2_with (at_builtin; refine wpList_app rfl segT (.tmp 67) (.tmp 69) rfl w.heap.size rfl hX rfl (m := 1) (news := [.int .i64 p, .int .i64 q]) rfl hY (segs_one [(p, q)]) (by simp only [maxLen]; omega) (by omega) hsz2 (k + 1) (segs (unpL bs (k + 1))) rfl (by rw [hL1.out, segs_append]; rfl) ?_; intro v3 w3 hown3 hbel3)
        replace S : St w w3 [] [(some ⟨b, off, none⟩, bs.map u8v)] := ⟨(S.b.alloc S.b.size _).trans hbel3, by simp, S.rd⟩
        clear hown hbel3 g0 g1 hX hY hsz2
        go_roundw
        case rel =>
          refine ⟨k + 1, i + 4, clsI bs i, ttlI bs i, by have := hk.out; omega, by go_num, by rw [q2.out], by rw [q3.out], by show _ = _; rw [hk.out]; omega, ?_, ?_, hown3, hK1.out.trans rfl, S⟩
          · show _ = _; rw [if_neg (by omega), Nat.add_sub_cancel, ← hk.out]
          · show _ = _; rw [if_neg (by omega), Nat.add_sub_cancel, ← hk.out]
        case measure => simp [intOf]; omega
      · obtain ⟨rfl, rfl, rfl, rfl⟩ := bad.out (hK2.out hz)
        have hz' : (e != 0) = true := by simpa using hz
        go_wp2_with fail
        exact bodyPost_ret (v := .tuple #[.slice none 0 0, .int .i64 0, .int .i64 0, .int .i64 4]) (by simp [results, Try.results18, go_sem]) rfl ⟨_, rfl, World.ownsRow_nil _ _ _ _, S.b⟩
    · obtain rfl : i = n := by omega
      have hk4 : Hid (i / 4 = k) := by have := hk.out; show _ = _; omega
      have hk32 : k ≤ 32 := by have := hk.out; omega
      obtain ⟨A6, c6, rfl, rd6, _, _⟩ := own_rd hown
      have cl7 : c < 8 := by rw [hcc.out]; split; omega; exact Nat.mod_lt _ (by omega)
      have tl7 : t < 256 := by rw [htt.out]; split; omega; exact Nat.mod_lt _ (by omega)
      have P := fun W hR => rpack_any A6 k c6 (unpL bs k) c t W hR (unpL_len bs k) (by omega)
      rw [(packR_known bs k c t hk32 cl7 tl7 hkn.out).2] at P
      obtain ⟨R, hR⟩ : ∃ x, packR (unpL bs k) c t = x := ⟨_, rfl⟩
      obtain ⟨m, hm⟩ : ∃ m, R.length = m := ⟨_, rfl⟩
      rw [hR, hm] at P
      obtain ⟨r, hr⟩ : ∃ r, (R == bs) = r := ⟨_, rfl⟩
      have hgood : good bs = r ∧ (r = true → ((if bs ≠ [] then (clsI bs 0 : Int) else 0) = c ∧ (if bs ≠ [] then (ttlI bs 0 : Int) else 0) = t)) := by
        rcases Nat.eq_zero_or_pos k with hk0 | hk0
        · subst hk0
          have hb : bs = [] := List.eq_nil_of_length_eq_zero (by have := hn.out; have := hk.out; omega)
          have hc0 : c = 0 := hcc.out
          have ht0 : t = 0 := htt.out
          subst hb hc0 ht0
          have hR0 : R = [] := by rw [← hR]; decide +kernel
          subst hR0
          subst hr
          exact ⟨by decide +kernel, fun _ => ⟨rfl, rfl⟩⟩
        · have hc1 : c = clsI bs (4 * (k - 1)) := hcc.out.trans (if_neg (by omega))
          have ht1 : t = ttlI bs (4 * (k - 1)) := htt.out.trans (if_neg (by omega))
          have hi0 : i ≠ 0 := by have := hk.out; omega
          have hne : bs ≠ [] := by rintro rfl; have := hn.out; simp at this; omega
          have h2 := good_last bs k hk32 hkn.out hk0
          rw [← hc1, ← ht1, hR, hr] at h2
          refine ⟨?_, fun hrt => ?_⟩
          · unfold good
            rw [hn.out, hk4.out, hkn.out, ← h2, show (i % 4 == 0) = true by simpa using h1, show decide (i ≤ 128) = true by simpa using ‹i ≤ 128›, show (i == 0) = false by simpa using hi0]
            rfl
          · have h3 : packR (unpL bs k) (clsI bs (4 * (k - 1))) (ttlI bs (4 * (k - 1))) = bs := by
              rw [← hc1, ← ht1, hR]; rw [hrt] at hr; simpa using hr
            obtain ⟨g1, g2⟩ := same_good bs k hk32 hkn.out (k - 1) 0 (by omega) hk0 h3
            rw [if_pos hne, if_pos hne, hc1, ht1, g1, g2]
            exact ⟨rfl, rfl⟩
      obtain ⟨hgood, hct⟩ := hgood
      have hLL : Hid (r = true → L = unpL bs k ∧ C = c ∧ T = t ∧ E = 0) := by
        intro h
        have hg : good bs = true := hgood.trans h
        obtain ⟨x1, x2⟩ := hct h
        refine ⟨?_, ?_, ?_, ?_⟩
        · rw [← hL.out]; unfold unL; rw [if_pos hg, hn.out, hk4.out]
        · rw [← hC.out, ← x1]; unfold unC; simp [hg]
        · rw [← hT.out, ← x2]; unfold unT; simp [hg]
        · rw [← hE.out]; unfold unE; rw [if_pos hg]
      rw [hgood] at bad
      replace bad := Lib.hid bad
      have he : Hid (((⟨R.toArray⟩ : ByteArray).toList == (⟨bs.toArray⟩ : ByteArray).toList) = r) := by
        show _ = _
        rw [ByteArray.toList_mk, ByteArray.toList_mk, hr]
      replace P := Lib.hid P
      replace hm := Lib.hid hm
      have UL := Lib.hid (unpL_len bs k)
      clear hgood hct hL hC hT hE hkn hR hr hcc htt cl7 tl7
      go_wp2_with fail
      (with_reducible refine (P.out _ rd6).mono ?_)
      rintro e w1 ⟨v, rfl, hown7, hb⟩
      replace S := S.call hb
      replace hown6 := own_below hown hb
      clear hb P rd6 hown
      obtain ⟨A7, c7, rfl, rd7, _, _⟩ := own_rd hown7
      have cv := conv_bytes (P := Try.prog) w1 (src := 24) (dst := 9) (e := 5) Try.underlying24 Try.underlying5 Try.underlying9 (cap := c7) rd7 hm.out
      have cv2 := conv_bytes (P := Try.prog) w1 (src := 24) (dst := 9) (e := 5) Try.underlying24 Try.underlying5 Try.underlying9 (cap := cap) (S.r 0 rfl) hn.out
      obtain ⟨x, hx⟩ : ∃ x : ByteArray, ⟨R.toArray⟩ = x := ⟨_, rfl⟩
      obtain ⟨y, hy⟩ : ∃ x : ByteArray, ⟨bs.toArray⟩ = x := ⟨_, rfl⟩
      rw [hx] at cv he
      rw [hy] at cv2 he
      replace he : (x.toList == y.toList) = r := he
      clear hx hy
      cases r
      · obtain ⟨rfl, rfl, rfl, rfl⟩ := bad.out rfl
        go_wp2_with fail
        exact bodyPost_ret (v := .tuple #[.slice none 0 0, .int .i64 0, .int .i64 0, .int .i64 4]) (by simp [results, Try.results18, go_sem]) rfl ⟨_, rfl, World.ownsRow_nil _ _ _ _, S.b⟩
      · obtain ⟨rfl, rfl, rfl, rfl⟩ := hLL.out rfl
        go_wp2_with fail
        exact bodyPost_ret (v := .tuple #[.slice A6 k c6, .int .i64 c, .int .i64 t, .int .i64 0]) (by simp [results, Try.results18, go_sem]) rfl ⟨_, rfl, by rw [UL.out]; exact hown6, S.b⟩

end Go.Proofs.Ytchppfgoaeddlaa
