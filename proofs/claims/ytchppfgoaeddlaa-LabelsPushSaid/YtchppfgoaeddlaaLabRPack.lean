/-
  The contract of the reference's Pack.
-/
import Derived.Test.YtchppfgoaeddlaaLabRef
namespace Go.Proofs.Ytchppfgoaeddlaa
set_option linter.unusedVariables false
open Go.RowKit

set_option maxHeartbeats 4000000 in
set_option maxRecDepth 100000 in
theorem rpack_any (A : Option Addr) (n cap : Nat) (l : List (Int × Int)) (c t : Int) (w : World) (hr : Rd w A (segs l)) (hn : l.length = n) (hn2 : n ≤ 1000000) :
    Calls Try.prog 12 #[.slice A n cap, .int .i64 c, .int .i64 t] w fun e w' =>
      ∃ v, e = .returned (.tuple #[v, .int .i64 (packErr l c t)]) ∧ w'.ownsRow w.heap.size 5 1 v (packR l c t).length ((packR l c t).map u8v) ∧ Below w.heap.size w w' := by
  subst hn
  obtain ⟨E, hE⟩ : ∃ E, packErr l c t = E := ⟨_, rfl⟩
  obtain ⟨R, hR⟩ : ∃ R, packR l c t = R := ⟨_, rfl⟩
  rw [hE, hR]
  replace hE := Lib.hid hE
  replace hR := Lib.hid hR
  have hrange : (c < 0 ∨ 7 < c ∨ t < 0 ∨ 255 < t) → E = 2 ∧ R = [] := by
    intro h
    have h2 : packErr l c t = 2 := by unfold packErr; rw [if_pos h]
    refine ⟨hE.out.symm.trans h2, ?_⟩
    rw [← hR.out]; unfold packR; rw [h2]; rfl
  by_cases h1 : c < 0
  · obtain ⟨rfl, rfl⟩ := hrange (.inl h1)
    clear hE hR hrange
    go_enter Try.func12, Try.ntmps12
    go_wp2_with fail
    go_ret2
    exact ⟨_, rfl, World.ownsRow_nil _ _ _ _, Below.refl _ _⟩
  by_cases h2 : 7 < c
  · obtain ⟨rfl, rfl⟩ := hrange (.inr (.inl h2))
    clear hE hR hrange
    go_enter Try.func12, Try.ntmps12
    go_wp2_with fail
    go_ret2
    exact ⟨_, rfl, World.ownsRow_nil _ _ _ _, Below.refl _ _⟩
  by_cases h3 : t < 0
  · obtain ⟨rfl, rfl⟩ := hrange (.inr (.inr (.inl h3)))
    clear hE hR hrange
    go_enter Try.func12, Try.ntmps12
    go_wp2_with fail
    go_ret2
    exact ⟨_, rfl, World.ownsRow_nil _ _ _ _, Below.refl _ _⟩
  by_cases h4 : 255 < t
  · obtain ⟨rfl, rfl⟩ := hrange (.inr (.inr (.inr h4)))
    clear hE hR hrange
    go_enter Try.func12, Try.ntmps12
    go_wp2_with fail
    go_ret2
    exact ⟨_, rfl, World.ownsRow_nil _ _ _ _, Below.refl _ _⟩
  have hin : ¬ (c < 0 ∨ 7 < c ∨ t < 0 ∨ 255 < t) := by omega
  clear hrange
  by_cases h5 : 32 < l.length
  · have hp : packErr l c t = 6 := by unfold packErr; rw [if_neg hin, if_pos h5]
    obtain rfl : E = 6 := hE.out.symm.trans hp
    obtain rfl : R = [] := by rw [← hR.out]; unfold packR; rw [hp]; rfl
    clear hE hR hp hin
    go_enter Try.func12, Try.ntmps12
    go_wp2_with fail
    go_ret2
    exact ⟨_, rfl, World.ownsRow_nil _ _ _ _, Below.refl _ _⟩
  have hp : packErr l c t = firstErr l := by unfold packErr; rw [if_neg hin, if_neg h5]
  have hF : Hid (firstErr l = E) := hp.symm.trans hE.out
  have hR0 : Hid (E = 0 → R = pk l c.toNat t.toNat l.length) := fun h => by rw [← hR.out]; unfold packR; rw [hE.out, if_pos h]
  have hR1 : Hid (E ≠ 0 → R = []) := fun h => by rw [← hR.out]; unfold packR; rw [hE.out, if_neg h]
  clear hE hR hp hin
  obtain ⟨C, rfl⟩ : ∃ C : Nat, c = C := ⟨c.toNat, by omega⟩
  obtain ⟨T, rfl⟩ : ∃ T : Nat, t = T := ⟨t.toNat, by omega⟩
  rw [Int.toNat_natCast, Int.toNat_natCast] at hR0
  have S := (St.start w).read hr
  go_enter Try.func12, Try.ntmps12
  go_wp2_with fail
  go_loopw [8, 9] (fun v8 v32 wr => ∃ k : Nat, k ≤ l.length ∧ v32 = .int .i64 k ∧ wr.ownsRow w.heap.size 5 1 v8 (4 * k) ((pk l C T k).map u8v) ∧ Hid (firstErr (l.drop k) = E) ∧ St w wr [] [(A, segs l)]) (fun v8 v32 _ => l.length - (intOf v32).toNat)
  case atStart => exact ⟨0, by omega, rfl, World.ownsRow_nil _ _ _ _, hF, S⟩
  case round =>
    clear S
    obtain ⟨k, hk, rfl, hown, hfe, S⟩ := hrel
    by_cases hkn : k < l.length
    · obtain ⟨b, off, rfl, c0, c1⟩ := rd_segs (S.r 0 rfl) hkn
      obtain ⟨p, q, hpq⟩ : ∃ p q, l[k] = (p, q) := ⟨_, _, rfl⟩
      have hgd : l.getD k (0, 0) = (p, q) := by rw [List.getD_eq_getElem?_getD, List.getElem?_eq_getElem hkn, hpq]; rfl
      rw [hpq] at c0 c1
      have hdr : l.drop k = (p, q) :: l.drop (k + 1) := by rw [List.drop_eq_getElem_cons hkn, hpq]
      replace hgd := Lib.hid hgd
      replace hdr := Lib.hid hdr
      clear hpq
      have K := fun W => rencode_any p q W
      obtain ⟨e, he⟩ : ∃ e, encE p q = e := ⟨_, rfl⟩
      obtain ⟨L, hL⟩ : ∃ L, encL p q = L := ⟨_, rfl⟩
      rw [he, hL] at K
      replace K := Lib.hid K
      have hE2 : Hid (E = if e = 0 then firstErr (l.drop (k + 1)) else e) := by rw [← hfe.out, hdr.out]; show firstErr (_ :: _) = _; rw [firstErr, he]
      have hok : Hid (e = 0 → ∃ N : Nat, L = N ∧ N ≤ 67583) := fun h => by rw [← hL]; exact enc_ok p q (he.trans h)
      have hgl : Hid (encL (l.getD k (0, 0)).1 (l.getD k (0, 0)).2 = L) := by rw [hgd.out]; exact hL
      clear he hL hfe
      go_wp2_with fail
      (with_reducible refine (K.out _).mono ?_)
      rintro e' w1 ⟨rfl, hb⟩
      replace S := S.call hb
      replace hown := own_below hown hb
      clear c0 c1 hb
      by_cases hz : e = 0
      · subst hz
        obtain ⟨N, rfl, hN⟩ := hok.out rfl
        have hE3 : Hid (firstErr (l.drop (k + 1)) = E) := hE2.out.symm
        have hpk : ∀ b, (k + 1 == l.length) = b → Hid ((pk l C T k).map u8v ++ (entB (entN N C T b)).map u8v = (pk l C T (k + 1)).map u8v) := by
          rintro b rfl
          show _ = _
          rw [← List.map_append]; show _ = List.map u8v (pk l C T k ++ _); rw [hgl.out, Int.toNat_natCast]
        have hsz := S.b.size
        clear hE2 hok
        by_cases hlast : k + 1 = l.length
        · replace hpk := hpk true (by simpa using hlast)
          have hq : ((k : Int) == (l.length : Int) - 1) = true := by simp; omega
          go_wp2_with (at_builtin; refine wpList_app rfl bytesT (.tmp 61) (.tmp 77) rfl w.heap.size rfl (own_below hown (below_new' _ _)) rfl rfl (Bs.lit w1 _ _ (entB (entN N C T true)) _ rfl (by simp [entB, entN, u8v]; omega)) (u8v_one _) (by simp only [maxLen]; omega) (by omega) (by simp; omega) (4 * (k + 1)) ((pk l C T (k + 1)).map u8v) (by omega) hpk.out ?_; intro v3 w3 hown3 hbel3)
          replace S : St w w3 [] [(some ⟨b, off, none⟩, segs l)] := ⟨(S.b.alloc S.b.size _).trans hbel3, by simp, S.rd⟩
          clear hown hbel3
          go_roundw
          case rel => exact ⟨k + 1, hkn, by go_num, hown3, hE3, S⟩
          case measure => simp [intOf]; omega
        · replace hpk := hpk false (by simpa using hlast)
          have hq : ((k : Int) == (l.length : Int) - 1) = false := by simp; omega
          go_wp2_with (at_builtin; refine wpList_app rfl bytesT (.tmp 61) (.tmp 77) rfl w.heap.size rfl (own_below hown (below_new' _ _)) rfl rfl (Bs.lit w1 _ _ (entB (entN N C T false)) _ rfl (by simp [entB, entN, u8v]; omega)) (u8v_one _) (by simp only [maxLen]; omega) (by omega) (by simp; omega) (4 * (k + 1)) ((pk l C T (k + 1)).map u8v) (by omega) hpk.out ?_; intro v3 w3 hown3 hbel3)
          replace S : St w w3 [] [(some ⟨b, off, none⟩, segs l)] := ⟨(S.b.alloc S.b.size _).trans hbel3, by simp, S.rd⟩
          clear hown hbel3
          go_roundw
          case rel => exact ⟨k + 1, hkn, by go_num, hown3, hE3, S⟩
          case measure => simp [intOf]; omega
      · obtain rfl : E = e := by rw [hE2.out, if_neg hz]
        obtain rfl := hR1.out hz
        have hne : (E != 0) = true := by simpa using hz
        clear hE2 hok
        go_wp2_with fail
        go_ret2
        exact ⟨_, rfl, World.ownsRow_nil _ _ _ _, S.b⟩
    · obtain rfl : k = l.length := by omega
      obtain rfl : E = 0 := by rw [← hfe.out, List.drop_length]; rfl
      obtain rfl := hR0.out rfl
      go_wp2_with fail
      go_ret2
      refine ⟨_, rfl, ?_, S.b⟩
      rw [pk_len]
      exact hown

end Go.Proofs.Ytchppfgoaeddlaa
