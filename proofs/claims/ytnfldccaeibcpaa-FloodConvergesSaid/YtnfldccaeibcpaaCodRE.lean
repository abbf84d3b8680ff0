/-
  The contract of the reference's Encode.
-/
import Derived.Test.YtnfldccaeibcpaaCodP
import Derived.Test.YtnfldccaeibcpaaBytes
namespace Go.Proofs.Ytnfldccaeibcpaa
set_option linter.unusedVariables false
open Go.RowKit

set_option maxHeartbeats 4000000 in
theorem rcencode_any (A : Option Addr) (n cap : Nat) (l : List Rc) (w : World) (hr : Rd w A (recV l)) (hok : ∀ r ∈ l, RcOk w r) (hn : l.length = n) (hn2 : n ≤ 1000000) :
    Calls Try.prog 73 #[.slice A n cap] w fun e w' =>
      ∃ v, e = .returned (.tuple #[v, .int .i64 (encE (l.map dat))]) ∧ w'.ownsRow w.heap.size 5 1 v (encR (l.map dat)).length ((encR (l.map dat)).map u8v) ∧ Below w.heap.size w w' := by
  subst hn
  obtain ⟨E, hE⟩ : ∃ E, encE (l.map dat) = E := ⟨_, rfl⟩
  obtain ⟨R, hR⟩ : ∃ R, encR (l.map dat) = R := ⟨_, rfl⟩
  rw [hE, hR]
  have hF : Hid (encE ((l.drop 0).map dat) = E) := hE
  have hR0 : Hid (E = 0 → R = encAll (l.map dat)) := fun h => by rw [← hR]; unfold encR; rw [hE, if_pos h]
  have hR1 : Hid (E ≠ 0 → R = []) := fun h => by rw [← hR]; unfold encR; rw [hE, if_neg h]
  clear hE hR
  have S := (St.start w).read hr
  replace hok := Lib.hid hok
  clear hr
  go_enter Try.func73, Try.ntmps73
  go_wp2_with fail
  go_loopw [4, 5] (fun v4 v9 wr => ∃ (k N : Nat), k ≤ l.length ∧ v9 = .int .i64 k ∧ N ≤ 65538 * k ∧ wr.ownsRow w.heap.size 5 1 v4 N ((encAll ((l.take k).map dat)).map u8v) ∧ Hid (encE ((l.drop k).map dat) = E) ∧ St w wr [] [(A, recV l)]) (fun v4 v9 _ => l.length - (intOf v9).toNat)
  case atStart => exact ⟨0, 0, by omega, rfl, by omega, World.ownsRow_nil _ _ _ _, hF, S⟩
  case round =>
    clear S hF
    obtain ⟨k, N, hk, rfl, hN, hown, hfe, S⟩ := hrel
    by_cases hkn : k < l.length
    · obtain ⟨b, off, rfl, c0, c1⟩ := rd_recs (S.r 0 rfl) hkn
      have hstep := encE_drop l k hkn
      have hall := encAll_take l k hkn
      have hrk := hok.out l[k] (List.getElem_mem hkn)
      rw [hfe.out] at hstep
      generalize l[k] = r at c0 c1 hstep hall hrk
      obtain ⟨t, B, m, c, bs⟩ := r
      obtain ⟨rd, hl, hnc, hcm⟩ := hrk
      simp only at rd hl hnc hcm hstep c0 c1
      rw [hl] at hstep
      replace hall := Lib.hid hall
      replace hl := Lib.hid hl
      clear hfe
      by_cases h1 : t < 1
      · rw [if_pos (.inl h1)] at hstep
        obtain rfl : E = 1 := hstep
        obtain rfl := hR1.out (by omega)
        go_wp2_with fail
        go_ret2
        exact ⟨_, rfl, World.ownsRow_nil _ _ _ _, S.b⟩
      by_cases h2 : 255 < t
      · rw [if_pos (.inr h2)] at hstep
        obtain rfl : E = 1 := hstep
        obtain rfl := hR1.out (by omega)
        go_wp2_with fail
        go_ret2
        exact ⟨_, rfl, World.ownsRow_nil _ _ _ _, S.b⟩
      rw [if_neg (by omega)] at hstep
      by_cases h3 : 65535 < m
      · rw [if_pos h3] at hstep
        obtain rfl : E = 6 := hstep
        obtain rfl := hR1.out (by omega)
        go_wp2_with fail
        go_ret2
        exact ⟨_, rfl, World.ownsRow_nil _ _ _ _, S.b⟩
      rw [if_neg h3] at hstep
      have hE3 : Hid (encE ((l.drop (k + 1)).map dat) = E) := hstep.symm
      clear hstep
      have hal : Hid (List.map u8v (encAll ((l.take k).map dat)) ++ [.int .u8 t, .int .u8 ((m : Int) / 256), .int .u8 ((m : Int) % 256)] ++ bs.map u8v = List.map u8v (encAll ((l.take (k + 1)).map dat))) := by
        show _ = _
        rw [hall.out, List.map_append, List.append_assoc]
        congr 1
        simp only [enc1, dat, hl.out, List.map_append, List.map_cons, List.map_nil]
        have e1 : u8v (UInt8.ofNat t.toNat) = .int .u8 t := u8_ofInt (by omega) (by omega)
        have e2 : u8v (UInt8.ofNat (m / 256)) = .int .u8 ((m : Int) / 256) := by
          rw [← u8_wrap, IntKind.wrap_u8]; congr 1; omega
        have e3 : u8v (UInt8.ofNat m) = .int .u8 ((m : Int) % 256) := by
          rw [← u8_wrap, IntKind.wrap_u8]
        rw [e1, e2, e3]
      have hb1 := below_new' wr (.cells #[.int .u8 t, .int .u8 ((m : Int) / 256), .int .u8 ((m : Int) % 256)] 5)
      have hown1 := own_below hown hb1
      have rd0 := Rd.lit wr #[.int .u8 t, .int .u8 ((m : Int) / 256), .int .u8 ((m : Int) % 256)] 5
      rw [Array.toList] at rd0
      have S1 := S.call hb1
      have hsz := S1.b.size
      have hbk := (S.rd 0 _ rfl).block (by rw [recV_len]; omega)
      have d1 : w.cell? ⟨b, off + k * 2 + 1, none⟩ = some (.slice B m c) := by
        obtain ⟨ad, had, hlt⟩ := hbk
        injection had with had
        subst had
        exact (S.b.cell (p := ⟨b, off + k * 2 + 1, none⟩) hlt).symm.trans c1
      clear hown hall hbk
      go_wp2_with (first
        | (at_builtin; refine wpList_app rfl bytesT (.tmp 35) (.tmp 48) rfl w.heap.size rfl hown1 (m := 3) rfl (by simp) rd0 (by simp [Value.oneCell']) (by simp only [maxLen]; omega) (by omega) hsz (N + 3) _ (by omega) rfl ?_; intro v3 w3 hown3 hbel3; have hb3 := S1.b.trans hbel3; have x1 := cell_later hb3 d1; have rd2 := rd.below hb3; replace S : St w w3 [] [(some ⟨b, off, none⟩, recV l)] := ⟨hb3, by simp, S.rd⟩; clear hown1 rd0 S1 hb1 hsz hbel3)
        | (at_builtin; refine wpList_app rfl bytesT (.tmp 50) (.tmp 55) rfl w.heap.size rfl hown3 (m := m) rfl (by simp [hl.out]) rd2 (u8v_one _) (by simp only [maxLen]; omega) (by omega) hb3.size (N + 3 + m) _ (by omega) hal.out ?_; intro v4 w4 hown4 hbel4))
      replace S : St w w4 [] [(some ⟨b, off, none⟩, recV l)] := ⟨hb3.trans hbel4, by simp, S.rd⟩
      go_roundw
      case rel => exact ⟨k + 1, N + 3 + m, by omega, by go_num, by omega, hown4, hE3, S⟩
      case measure => simp [intOf]; omega
    · obtain rfl : k = l.length := by omega
      obtain rfl : E = 0 := by rw [← hfe.out, List.drop_length]; rfl
      obtain rfl := hR0.out rfl
      rw [List.take_length] at hown
      go_wp2_with fail
      go_ret2
      refine ⟨_, rfl, ?_, S.b⟩
      have := hown.1
      rw [List.length_map, Nat.mul_one] at this
      rw [this]
      exact hown

end Go.Proofs.Ytnfldccaeibcpaa
