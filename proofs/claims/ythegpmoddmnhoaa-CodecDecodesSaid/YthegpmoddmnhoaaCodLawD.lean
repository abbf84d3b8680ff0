/-
  The walk of the statement CodecDecodes.
-/
import Derived.Test.YthegpmoddmnhoaaCodAw
import Derived.Test.YthegpmoddmnhoaaCodRD
import Derived.Test.YthegpmoddmnhoaaCodSm
namespace Go.Proofs.Ythegpmoddmnhoaa
set_option linter.unusedVariables false
open Go.RowKit

set_option maxHeartbeats 4000000 in
theorem decodes_law (w : World) (A : Option Addr) (n cap : Nat) (bs : List UInt8) (hr : Bs w A bs) (hn : bs.length = n) (hcap : n ≤ cap) (hm : cap ≤ maxLen) :
    Calls Try.prog 4 #[.slice A n cap] w fun e w' => e = .returned (.bool true) ∧ Below w.heap.size w w' := by
  have hm' := hm
  unfold maxLen at hm
  have S := (St.start w).read hr
  replace hn := Lib.hid hn
  clear hr
  go_enter Try.func4, Try.ntmps4
  go_wp2_with fail
  (with_reducible refine (awake_any _).mono ?_)
  rintro e w1 ⟨rfl, hb⟩
  replace S := S.call hb
  clear hb
  by_cases hl : 2000 < n
  · have hl' : (2000 : Int) < n := by omega
    go_wp2_with fail
    go_ret
    exact ⟨rfl, S.b⟩
  have hl' : ¬ (2000 : Int) < n := by omega
  have hown0 := own_empty w1 5 1
  have hb0 := below_new' w1 (.cells #[] 5)
  have S1 := S.call hb0
  have hsz := hb0.size
  go_wp2_with (at_builtin; refine wpList_app rfl bytesT (.tmp 13) (.tmp 14) rfl w1.heap.size rfl hown0 (m := n) rfl (by simp [hn.out]) (S1.r 0 rfl) (u8v_one _) (by simp only [maxLen]; omega) (by omega) hsz n (bs.map u8v) (by omega) (by simp) ?_; intro v2 w2 hown hbel; obtain ⟨A2, c2, rfl, rd2, hc2, hc2m⟩ := own_rd hown)
  replace S := S.call (hb0.trans hbel)
  have T := (St.start w2).read rd2
  clear S1 hb0 hbel hown0 hown rd2
  have K1 := cdecode_any A2 n c2 bs w2 (T.r 0 rfl) hn.out hc2 hc2m (by omega)
  have K2 := fun W hR => rdecode_any A n cap bs W hR hn.out hcap hm' (by omega)
  obtain ⟨E, hE⟩ : ∃ x, decE bs = x := ⟨_, rfl⟩
  obtain ⟨L, hL⟩ : ∃ x, decL bs = x := ⟨_, rfl⟩
  have hLn : Hid (L.length ≤ n) := by
    show _ ≤ _
    rw [← hL, ← hn.out]; exact decL_len bs
  unfold DecPost at K1 K2
  rw [hE, hL] at K1 K2
  replace K1 := Lib.hid K1
  replace K2 := Lib.hid K2
  clear hE hL
  go_wp2_with fail
  (with_reducible refine K1.out.mono ?_)
  rintro e w3 ⟨v3, rs, rfl, hown3, hrs, hdat, hb⟩
  replace S := S.call hb
  replace T := T.call hb
  clear hb K1
  obtain ⟨A3, c3, rfl, rd3, _, _⟩ := own_rd hown3
  replace hrs : Hid (∀ W', Below w3.heap.size w3 W' → ∀ r ∈ rs, RcOk W' r) := fun W' hb r hr => (hrs r hr).ok.below hb
  replace hdat := Lib.hid hdat
  go_wp2_with fail
  (with_reducible refine (K2.out _ (S.r 0 rfl)).mono ?_)
  rintro e w4 ⟨v4, rs2, rfl, hown4, hrs2, hdat2, hb⟩
  replace S := S.call hb
  replace T := T.call hb
  have T3 := ((St.start w3).read rd3).call hb
  clear hb K2
  obtain ⟨A4, c4, rfl, rd4, _, _⟩ := own_rd hown4
  replace hrs2 : Hid (∀ W', Below w4.heap.size w4 W' → ∀ r ∈ rs2, RcOk W' r) := fun W' hb r hr => (hrs2 r hr).ok.below hb
  have he : Hid (rs.map dat = rs2.map dat) := hdat.out.trans hdat2.symm
  have hle : rs.length ≤ 1000000 := by
    have := congrArg List.length hdat.out
    rw [List.length_map] at this
    have := hLn.out
    omega
  clear hdat hdat2 hLn hown3 hown4 rd3
  go_wp2_with fail
  (with_reducible refine (back_any A3 rs.length c3 rs _ (T3.r 0 rfl) rfl hle).mono ?_)
  rintro e w5 ⟨v5, rfl, hown5, hb⟩
  replace S := S.call hb
  replace T := T.call hb
  replace T3 := T3.call hb
  have T4 := ((St.start w4).read rd4).call hb
  obtain ⟨A5, c5, rfl, rd5, _, _⟩ := own_rd hown5
  clear hb hown5 rd4
  go_wp2_with fail
  (with_reducible refine (rsame_any A5 A4 rs.length c5 rs2.length c4 rs rs2 _ rd5 (T4.r 0 rfl) (hrs.out _ T3.b) (hrs2.out _ T4.b) rfl rfl hle he.out).mono ?_)
  rintro e w6 ⟨rfl, hb⟩
  replace S := S.call hb
  replace T := T.call hb
  have cv := conv_bytes (P := Try.prog) w6 (src := 27) (dst := 9) (e := 5) Try.underlying27 Try.underlying5 Try.underlying9 (cap := c2) (T.r 0 rfl) hn.out
  have cv2 := conv_bytes (P := Try.prog) w6 (src := 27) (dst := 9) (e := 5) Try.underlying27 Try.underlying5 Try.underlying9 (cap := cap) (S.r 0 rfl) hn.out
  clear rd5 hb
  go_wp2_with fail
  go_ret
  exact ⟨rfl, S.b⟩

end Go.Proofs.Ythegpmoddmnhoaa
