/-
  messages: the reference's Pack.
-/
import Derived.Test.YtdepfgalaicpeaaMsRV
import Derived.Test.YtdepfgalaicpeaaCodRN
import Derived.Test.YtdepfgalaicpeaaCodRE
import Derived.Deep.RegionLaw
namespace Go.Proofs.Ytdepfgalaicpeaa
set_option linter.unusedVariables false
open Go.RowKit Go.Sort

def RPackPost (w : World) (m : Ms) (e : Ending) (w' : World) : Prop :=
  ∃ A c, e = .returned (.slice A (msEnc m).length c) ∧ w'.ownsRow w.heap.size 5 1 (.slice A (msEnc m).length c) (msEnc m).length ((msEnc m).map u8v) ∧ Below w.heap.size w w'
theorem rencode_one (w : World) (k : Int) (A : Option Addr) (n c : Nat) (bs : List UInt8) (g : Nat) (h1 : 1 ≤ k) (h2 : k ≤ 255) (h3 : n ≤ 65535) (hr : Bs w A bs) (hn : bs.length = n) (hnc : n ≤ c) (hc : c ≤ 9223372036854775807) (hg : Rd w (some ⟨g, 0, none⟩) [.int .i64 k, .slice A n c]) :
    Calls Try.prog 22 #[.slice (some ⟨g, 0, none⟩) 1 1] w fun e w' =>
      ∃ A' c', e = .returned (.tuple #[.slice A' (enc1 (k, bs)).length c', .int .i64 0]) ∧ w'.ownsRow w.heap.size 5 1 (.slice A' (enc1 (k, bs)).length c') (enc1 (k, bs)).length ((enc1 (k, bs)).map u8v) ∧ Below w.heap.size w w' := by
  obtain ⟨e1, e2⟩ := enc1_one (k, bs) h1 h2 (by simpa [hn] using h3)
  refine (rcencode_any (some ⟨g, 0, none⟩) 1 1 [⟨k, A, n, c, bs⟩] w hg (by
    intro r hr'
    rw [List.mem_singleton.1 hr']
    exact ⟨hr, hn, hnc, hc⟩) rfl (by omega)).mono ?_
  rintro e w' ⟨v, he, hown, hb⟩
  rw [show [(⟨k, A, n, c, bs⟩ : Rc)].map dat = [(k, bs)] from rfl] at he hown
  rw [e1] at he
  rw [e2] at hown
  obtain ⟨A', c', rfl, _⟩ := own_rd hown
  exact ⟨A', c', he, hown, hb⟩
theorem number_ok (m k : Nat) (z : Int) (w : World) (hz : z = k) (hm : m < 18446744073709551616) (hk : k ≤ 8) :
    Calls Try.prog 20 #[.int .u64 m, .int .i64 z] w fun e w' =>
      ∃ A c, e = .returned (.slice A k c) ∧ w'.ownsRow w.heap.size 5 1 (.slice A k c) k ((numB m k).map u8v) ∧ Below w.heap.size w w' := by
  subst hz
  refine (number_any m k w hm hk).mono ?_
  rintro e w' ⟨v, he, hown, hb⟩
  obtain ⟨A', c', rfl, _⟩ := own_rd hown
  exact ⟨A', c', he, hown, hb⟩
theorem St.callB {W w w' : World} {bs : List (Nat × List Value)} {rs : List (Option Addr × List Value)} {B : Nat} (S : St W w bs rs) (hb : Below B w w') (hB : W.heap.size ≤ B) (hd : ∀ x ∈ bs, x.1 < B) : St W w' bs rs :=
  ⟨S.b.trans (hb.mono hB), fun i x hx i' u hu => by
    have hx' := hd x (List.mem_of_getElem? hx)
    have := S.bx i x hx i' u hu
    exact ⟨(hb.cell (p := ⟨x.1, i', none⟩) hx').trans this.1, (hb.frozen (p := ⟨x.1, i', none⟩) hx').trans this.2⟩, S.rd⟩
theorem own_grownM {w w' : World} {base : Nat} {e : TypeId} {size : Nat} {v : Value} {n : Nat} {xs : List Value} {row : Option Nat} (h : w.ownsRow base e size v n xs) (hg : w.grownBy w' row) (hne : v.ownBlock = none ∨ v.ownBlock ≠ row) : w'.ownsRow base e size v n xs := by
  refine ⟨h.1, ?_⟩
  rcases h.2 with h2 | ⟨b, cap, cur, rfl, hb, hh, r⟩
  · exact .inl h2
  · exact .inr ⟨b, cap, cur, rfl, hb, (hg.block b (h.lt b rfl).2 (fun e => by
      rcases hne with h | h
      · simp [Value.ownBlock] at h
      · exact h (by rw [← e]; rfl))).trans hh, r⟩
/-- What was made by two calls lies apart. -/
theorem own_apart {w w' : World} {b1 : Nat} {e1 e2 : TypeId} {s1 s2 : Nat} {v1 v2 : Value} {n1 n2 : Nat} {x1 x2 : List Value} (h1 : w.ownsRow b1 e1 s1 v1 n1 x1) (h2 : w'.ownsRow w.heap.size e2 s2 v2 n2 x2) : v2.ownBlock = none ∨ v2.ownBlock ≠ v1.ownBlock := by
  by_cases h : v2.ownBlock = none
  · exact .inl h
  · refine .inr fun e => ?_
    obtain ⟨b, hb⟩ := Option.ne_none_iff_exists'.1 h
    have k2 := (h2.lt b hb).1
    have k1 := (h1.lt b (e ▸ hb)).2
    omega
theorem own_apart' {w w' : World} {b1 : Nat} {e1 e2 : TypeId} {s1 s2 : Nat} {v1 v2 : Value} {n1 n2 : Nat} {x1 x2 : List Value} (h1 : w.ownsRow b1 e1 s1 v1 n1 x1) (h2 : w'.ownsRow w.heap.size e2 s2 v2 n2 x2) : v1.ownBlock = none ∨ v1.ownBlock ≠ v2.ownBlock := by
  rcases own_apart h1 h2 with h | h
  · by_cases h' : v1.ownBlock = none
    · exact .inl h'
    · exact .inr fun e => h' (e.trans h)
  · exact .inr fun e => h e.symm

set_option maxRecDepth 100000 in
set_option maxHeartbeats 12800000 in
theorem rpack_any (w : World) (v : Value) (m : Ms) (h : MsAt w v m) (hv : msB m = true) : Calls Try.prog 10 #[v] w (RPackPost w m) := by
  obtain ⟨A, c, B, d, rfl, hl⟩ := h
  have S := (St.start w).new' #[.int .i64 m.k, .int .i64 m.n, .int .i64 m.b, .int .i64 m.h, .int .i64 m.y.o, .int .i64 m.y.s, .int .i64 m.y.a, .bool m.y.ov, .slice A m.y.adj.length c, .slice B m.y.pre.length d] 27 w.heap.size _ rfl rfl
  unfold RPackPost
  have hval := msVal_len hv
  obtain ⟨⟨hb1, hb2⟩, hc⟩ := ms_cases hv
  clear hv
  unfold msEnc msVal at *
  obtain ⟨k, n, b, h, y⟩ := m
  simp only at *
  obtain ⟨bb, rfl⟩ := Int.eq_ofNat_of_zero_le (show 0 ≤ b by omega)
  have N1 := fun W => number_ok bb 4 4 W rfl (by omega) (by omega)
  replace N1 := Lib.hid N1
  rcases hc with ⟨rfl, ⟨hn1, hn2⟩, ⟨hh1, hh2⟩, rfl⟩ | ⟨hk, rfl, rfl, hy⟩
  · obtain ⟨nn, rfl⟩ := Int.eq_ofNat_of_zero_le hn1
    obtain ⟨hh, rfl⟩ := Int.eq_ofNat_of_zero_le hh1
    rw [if_pos rfl]
    rw [show (((nn : Int)).toNat) = nn from Int.toNat_natCast nn, show (((bb : Int)).toNat) = bb from Int.toNat_natCast bb, show (((hh : Int)).toNat) = hh from Int.toNat_natCast hh]
    clear hval hl
    obtain ⟨L, hL⟩ : ∃ L, enc1 (1, numB nn 2 ++ (numB bb 4 ++ numB hh 4)) = L := ⟨_, rfl⟩
    rw [hL]
    replace hL := Lib.hid hL
    have N2 := fun W => number_ok nn 2 2 W rfl (by omega) (by omega)
    have N3 := fun W => number_ok hh 4 4 W rfl (by omega) (by omega)
    replace N2 := Lib.hid N2
    replace N3 := Lib.hid N3
    have a0 := S.c 0 0 rfl rfl
    have a1 := S.c 0 1 rfl rfl
    have a2 := S.c 0 2 rfl rfl
    have a3 := S.c 0 3 rfl rfl
    have a4 := S.c 0 4 rfl rfl
    have a5 := S.c 0 5 rfl rfl
    have a6 := S.c 0 6 rfl rfl
    have a7 := S.c 0 7 rfl rfl
    have a8 := S.c 0 8 rfl rfl
    have a9 := S.c 0 9 rfl rfl
    go_enter Try.func10, Try.ntmps10
    go_wp2_with fail
    (with_reducible refine (N1.out _).mono ?_)
    rintro e w1 ⟨A1, c1, rfl, o1, hb⟩
    clear a0 a1 a2 a3 a4 a5 a6 a7 a8 a9
    replace S := S.call hb
    clear hb N1
    replace o1 := own_mono o1 (show w.heap.size ≤ _ by simp)
    have a0 := S.c 0 0 rfl rfl
    have a1 := S.c 0 1 rfl rfl
    have a2 := S.c 0 2 rfl rfl
    have a3 := S.c 0 3 rfl rfl
    have a4 := S.c 0 4 rfl rfl
    have a5 := S.c 0 5 rfl rfl
    have a6 := S.c 0 6 rfl rfl
    have a7 := S.c 0 7 rfl rfl
    have a8 := S.c 0 8 rfl rfl
    have a9 := S.c 0 9 rfl rfl
    go_upto_region 3 with fail
    have T := S.drew
    have hg0 := S.lt 0 rfl (by simp)
    have l1 : ((numB bb 4).map u8v).length = 4 * 1 := by simp [numB_len]
    have l3 : ((numB hh 4).map u8v).length = 4 * 1 := by simp [numB_len]
    have hbs := S.b.size
    generalize hL1 : (numB bb 4).map u8v = L1 at *
    generalize hL2 : (numB nn 2).map u8v = L2 at *
    generalize hL3 : (numB hh 4).map u8v = L3 at *
    have one1 : ∀ u ∈ L1, u.oneCell' = true := by rw [← hL1]; exact u8v_one _
    have one3 : ∀ u ∈ L3, u.oneCell' = true := by rw [← hL3]; exact u8v_one _
    have f1 : 2 + 4 ≤ maxLen := by simp [maxLen]
    have f2 : 6 + 4 ≤ maxLen := by simp [maxLen]
    replace hL1 := Lib.hid hL1
    replace hL2 := Lib.hid hL2
    replace hL3 := Lib.hid hL3
    replace o1 : w1.drew.ownsRow w.heap.size 5 1 (.slice A1 4 c1) 4 L1 := o1
    clear S
    have hwn : IntKind.u64.wrap (nn : Int) = nn := by rw [IntKind.wrap_u64]; omega
    have hwh : IntKind.u64.wrap (hh : Int) = hh := by rw [IntKind.wrap_u64]; omega
    have hz : w1.heap.size ≤ w1.drew.heap.size := Nat.le_refl _
    have a1 := T.c 0 1 rfl rfl
    have a3 := T.c 0 3 rfl rfl
    have f3 : (2 + 4) * 1 ≤ 140737488355328 := by omega
    have f4 : (6 + 4) * 1 ≤ 140737488355328 := by omega
    have hd : ∀ x ∈ [(w.heap.size, ([.int .i64 1, .int .i64 nn, .int .i64 bb, .int .i64 hh, .int .i64 laZero.o, .int .i64 laZero.s, .int .i64 laZero.a, .bool laZero.ov, .slice A laZero.adj.length c, .slice B laZero.pre.length d] : List Value))], x.1 < w1.heap.size := fun x hx => by rw [List.mem_singleton.1 hx]; exact hg0
    replace hd := Lib.hid hd
    have tok1 : True := trivial
    have tok2 : True := trivial
    go_region_law
      (first
        | (clear tok1; rw [if_pos (by simp [Region.wanted])]; go_simp; (with_reducible refine (N2.out _).mono ?_); rintro e wa ⟨A2, c2, rfl, o2, hba⟩; dsimp only; (try (have ap := own_apart' o4 o2; replace o4 := own_below o4 hba)); replace o2 := own_mono o2 hz; (try (replace o1 := own_below o1 hba)); replace T := T.call hba; replace hz := Nat.le_trans hz hba.size; clear hba; (try (have a3 := T.c 0 3 rfl rfl)))
        | (clear tok2; rw [if_pos (by simp [Region.wanted])]; go_simp; (with_reducible refine (N3.out _).mono ?_); rintro e wb ⟨A3, c3, rfl, o4, hbb⟩; dsimp only; (try (have ap := own_apart o2 o4; replace o2 := own_below o2 hbb)); (try (replace o5 := own_below o5 hbb)); replace o4 := own_mono o4 hz; (try (replace o1 := own_below o1 hbb)); replace T := T.call hbb; replace hz := Nat.le_trans hz hbb.size; clear hbb; (try (have a1 := T.c 0 1 rfl rfl)))
        | (refine step_appG (o := ⟨some 18, _, _, _, _, _⟩) rfl bytesT (.tmp 16) (.tmp 17) (by rfl) w1.heap.size (by rfl) o2 (m := 4) (by rfl) l1 (own_rdp o1).1 one1 f1 f3 hz 6 _ rfl rfl ?_; intro v5 w5 o5 hbel5 hg5; obtain ⟨A5, c5, rfl, _⟩ := own_rd o5; replace T := T.callB hbel5 hbs hd.out; replace hz := Nat.le_trans hz hbel5.size; (try (replace o4 := own_grownM o4 hg5 ap)); (try (have a3 := T.c 0 3 rfl rfl)))
        | (refine step_appG (o := ⟨some 23, _, _, _, _, _⟩) rfl bytesT (.tmp 18) (.tmp 22) (by rfl) w1.heap.size (by rfl) o5 (m := 4) (by rfl) l3 (own_rdp o4).1 one3 f2 f4 hz 10 _ rfl rfl ?_; intro v6 w6 o6 hbel6 hg6; obtain ⟨A6, c6, rfl, _⟩ := own_rd o6; replace T := T.callB hbel6 hbs hd.out; replace hz := Nat.le_trans hz hbel6.size))
    all_goals
      have e6 : L2 ++ L1 ++ L3 = (numB nn 2 ++ (numB bb 4 ++ numB hh 4)).map u8v := by rw [← hL1.out, ← hL2.out, ← hL3.out]; simp
      rw [e6] at o6
      clear e6
      have hl6 : (numB nn 2 ++ (numB bb 4 ++ numB hh 4)).length = 10 := by simp [numB_len]
      have hb4 := below_new' w6 (.cells #[.int .i64 1, .slice A6 10 c6] 56)
      obtain ⟨r6, n6, m6⟩ := own_rdp o6
      have EN := rencode_one (w6.alloc (.cells #[.int .i64 1, .slice A6 10 c6] 56)) 1 A6 10 c6 (numB nn 2 ++ (numB bb 4 ++ numB hh 4)) w6.heap.size (by omega) (by omega) (by omega) (Rd.below r6 hb4) hl6 n6 (by unfold maxLen at m6; omega) (Rd.lit w6 _ _)
      rw [hL.out] at EN
      replace EN := Lib.hid EN
      have q0 := T.c 0 0 rfl rfl
      have hs6 := T.b.size
      clear o6 r6 hl6
      go_wp2_with fail
      (with_reducible refine (EN.out).mono ?_)
      rintro e w7 ⟨A7, c7, rfl, o7, hb⟩
      replace T := (T.call hb4).call hb
      go_wp2_with fail
      go_ret
      exact ⟨A7, c7, rfl, own_mono o7 (by simp; omega), T.b⟩
  · have hk1 : (k == 1) = false := by simp; omega
    rw [if_neg (by omega)] at hval ⊢
    rw [show (((bb : Int)).toNat) = bb from Int.toNat_natCast bb] at hval ⊢
    have hkb : 1 ≤ k ∧ k ≤ 255 := by omega
    clear hk
    have hyb : (laEnc y).length ≤ 2996 := by rw [List.length_append, numB_len] at hval; omega
    have N2 := fun W hb => renc_at W _ y (hl.below hb) hy
    unfold REncPost at N2
    clear hl hy
    obtain ⟨Y, hY⟩ : ∃ Y, laEnc y = Y := ⟨_, rfl⟩
    rw [hY] at hval hyb N2 ⊢
    clear hY
    obtain ⟨L, hL⟩ : ∃ L, enc1 (k, numB bb 4 ++ Y) = L := ⟨_, rfl⟩
    rw [hL]
    replace hL := Lib.hid hL
    replace N2 := Lib.hid N2
    have a0 := S.c 0 0 rfl rfl
    have a1 := S.c 0 1 rfl rfl
    have a2 := S.c 0 2 rfl rfl
    have a3 := S.c 0 3 rfl rfl
    have a4 := S.c 0 4 rfl rfl
    have a5 := S.c 0 5 rfl rfl
    have a6 := S.c 0 6 rfl rfl
    have a7 := S.c 0 7 rfl rfl
    have a8 := S.c 0 8 rfl rfl
    have a9 := S.c 0 9 rfl rfl
    go_enter Try.func10, Try.ntmps10
    go_wp2_with fail
    (with_reducible refine (N1.out _).mono ?_)
    rintro e w1 ⟨A1, c1, rfl, o1, hb⟩
    clear a0 a1 a2 a3 a4 a5 a6 a7 a8 a9
    have S0lt := S.lt 0 rfl (by simp)
    have hs1 := S.b.size
    replace S := S.call hb
    replace o1 := own_mono o1 (show w.heap.size + 1 ≤ _ by simp)
    clear hb N1
    have a0 := S.c 0 0 rfl rfl
    have a1 := S.c 0 1 rfl rfl
    have a2 := S.c 0 2 rfl rfl
    have a3 := S.c 0 3 rfl rfl
    have a4 := S.c 0 4 rfl rfl
    have a5 := S.c 0 5 rfl rfl
    have a6 := S.c 0 6 rfl rfl
    have a7 := S.c 0 7 rfl rfl
    have a8 := S.c 0 8 rfl rfl
    have a9 := S.c 0 9 rfl rfl
    go_wp2_with fail
    (with_reducible refine (N2.out _ S.b).mono ?_)
    rintro e w3 ⟨A2, c2, rfl, o2, hb⟩
    clear a0 a1 a2 a3 a4 a5 a6 a7 a8 a9
    replace S := S.call hb
    replace o1 := own_below o1 hb
    have hsz := hb.size
    clear hb N2
    obtain ⟨r2, n2, m2⟩ := own_rdp o2
    have hwb := S.lt 0 rfl (by simp)
    have hlY : (Y.map u8v).length = Y.length * 1 := by simp
    have a0 := S.c 0 0 rfl rfl
    go_wp2_with (at_builtin; refine wpList_app rfl bytesT (.tmp 24) (.tmp 27) rfl (w.heap.size + 1) rfl o1 (m := Y.length) rfl hlY r2 (u8v_one _) (by simp only [maxLen]; omega) (by omega) (by omega) (4 + Y.length) ((numB bb 4 ++ Y).map u8v) rfl (by simp) ?_; intro v3 w6 o3 hb3; have q0 := (hb3.cell (p := ⟨w.heap.size, 0, none⟩) (by simp)).trans a0; obtain ⟨A6, c6, rfl, r3, n3, m3⟩ := own_rd o3)
    have hs6 : w.heap.size ≤ w6.heap.size := Nat.le_trans (Nat.le_of_lt hwb) hb3.size
    have hb6 : Below w.heap.size w w6 := S.b.trans (hb3.mono (by omega))
    have hl6 : (numB bb 4 ++ Y).length = 4 + Y.length := by simp [numB_len]
    have o6 := o3
    have hb4 := below_new' w6 (.cells #[.int .i64 k, .slice A6 (4 + Y.length) c6] 56)
    obtain ⟨r6, n6, m6⟩ := own_rdp o6
    have EN := rencode_one (w6.alloc (.cells #[.int .i64 k, .slice A6 (4 + Y.length) c6] 56)) k A6 (4 + Y.length) c6 (numB bb 4 ++ Y) w6.heap.size (by omega) (by omega) (by omega) (Rd.below r6 hb4) hl6 n6 (by unfold maxLen at m6; omega) (Rd.lit w6 _ _)
    rw [hL.out] at EN
    replace EN := Lib.hid EN
    (with_reducible refine (EN.out).mono ?_)
    rintro e w7 ⟨A7, c7, rfl, o7, hb⟩
    have hb7 := hb6.trans ((hb4.mono hs6).trans (hb.mono (by simp; omega)))
    clear EN
    go_wp2_with fail
    go_ret
    exact ⟨A7, c7, rfl, own_mono o7 (by simp; omega), hb7⟩

end Go.Proofs.Ytdepfgalaicpeaa
