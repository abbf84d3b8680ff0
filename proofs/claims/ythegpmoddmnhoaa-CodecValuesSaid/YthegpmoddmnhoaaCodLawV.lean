/-
  The walk of the statement CodecValues.
-/
import Derived.Test.YthegpmoddmnhoaaCodAw
import Derived.Test.YthegpmoddmnhoaaCodV
namespace Go.Proofs.Ythegpmoddmnhoaa
set_option linter.unusedVariables false
open Go.RowKit

theorem rd_vals {w : World} {A : Option Addr} {l : List Rc} (h : Rd w A (valV l)) {k : Nat} (hk : k < l.length) :
    ∃ b off, A = some ⟨b, off, none⟩ ∧ w.cell? ⟨b, off + k, none⟩ = some (.slice l[k].A l[k].n l[k].c) := by
  obtain ⟨b, off, e, hc⟩ := rd_at h (by unfold valV; rw [List.length_map]; omega)
  exact ⟨b, off, e, hc _ _ (by unfold valV; rw [List.getElem?_map, List.getElem?_eq_getElem hk]; rfl)⟩

set_option maxHeartbeats 4000000 in
set_option maxRecDepth 100000 in
theorem values_law (w : World) (A : Option Addr) (n cap : Nat) (l : List Rc) (hr : Rd w A (recV l)) (hn : l.length = n) (hnc : n ≤ cap) (hm : cap ≤ maxLen) (hok : ∀ r ∈ l, RcOk w r ∧ r.n ≤ reachBytes) (kind : Int) (hz : (Lit.int .i64 kind).wf = true) :
    Calls Try.prog 7 #[.slice A n cap, .int .i64 kind] w fun e w' => e = .returned (.bool true) ∧ Below w.heap.size w w' := by
  unfold maxLen at hm
  clear hz
  have S := (St.start w).read hr
  have hsm : Hid (∀ r ∈ l, r.n ≤ 140737488355328) := fun r hr => Nat.le_trans (hok r hr).2 (by decide)
  replace hok : Hid (∀ W', Below w.heap.size w W' → ∀ r ∈ l, RcOk W' r) := fun W' hb r hr => (hok r hr).1.below hb
  replace hn := Lib.hid hn
  clear hr
  go_enter Try.func7, Try.ntmps7
  go_wp2_with fail
  (with_reducible refine (awake_any _).mono ?_)
  rintro e w1 ⟨rfl, hb⟩
  replace S := S.call hb
  clear hb
  by_cases hl : 40 < n
  · have hl' : (40 : Int) < n := by omega
    go_wp2_with fail
    go_ret
    exact ⟨rfl, S.b⟩
  have hl' : ¬ (40 : Int) < n := by omega
  go_wp2_with fail
  (with_reducible refine (own_any A n cap l _ (S.r 0 rfl) hn.out (by omega)).mono ?_)
  rintro e w2 ⟨v, rfl, hown, hb⟩
  replace S := S.call hb
  obtain ⟨A1, c1, rfl, rd1, _, _⟩ := own_rd hown
  have K := values_any A1 n c1 l kind w2 rd1 (hok.out _ S.b) hn.out (by omega) hsm.out
  unfold ValPost at K
  replace K := Lib.hid K
  clear hb hown rd1
  go_wp2_with fail
  (with_reducible refine K.out.mono ?_)
  rintro e w3 ⟨v3, rs, rfl, hown3, hrs, hbs, hb⟩
  replace S := S.call hb
  obtain ⟨A3, c3, rfl, rd3, _, _⟩ := own_rd hown3
  have T := (St.start w3).read rd3
  replace hrs : Hid (∀ W', Below w3.heap.size w3 W' → ∀ r ∈ rs, RcOk W' r) := fun W' hb r hr => (hrs r hr).ok.below hb
  have hrl : Hid (rs.length = (vals (l.map dat) kind).length) := by
    show _ = _
    rw [← hbs, List.length_map]
  have hrl2 : rs.length ≤ 40 := by
    have h1 := vals_len (l.map dat) kind
    rw [List.length_map, hn.out] at h1
    have := hrl.out
    omega
  replace hbs := Lib.hid hbs
  clear hb K hown3 rd3
  go_wp2_with fail
  go_loopw [6, 7] (fun v6 v7 wr => ∃ k : Nat, k ≤ n ∧ v7 = .int .i64 k ∧ v6 = .int .i64 ((vals ((l.take k).map dat) kind).length : Int) ∧ St w wr [] [(A, recV l)] ∧ St w3 wr [] [(A3, valV rs)]) (fun _ v7 _ => n - (intOf v7).toNat)
  case atStart => exact ⟨0, by omega, rfl, rfl, S, T⟩
  case round =>
    clear S T
    obtain ⟨k, hk, rfl, rfl, S, T⟩ := hrel
    by_cases hkn : k < n
    · have hkl : k < l.length := by rw [hn.out]; exact hkn
      obtain ⟨b, off, rfl, c0, c1⟩ := rd_recs (S.r 0 rfl) hkl
      have hy := vals_yes l k hkl kind
      have hno := vals_no l k hkl kind
      have k1 := hok.out wr S.b l[k] (List.getElem_mem hkl)
      have hml := vals_len ((l.take k).map dat) kind
      rw [List.length_map, List.length_take] at hml
      by_cases ht : l[k].t = kind
      · have hsp := vals_split l (k + 1) kind
        have hyy := hy ht
        rw [hyy, ← hbs.out] at hsp
        obtain ⟨m, hm2⟩ : ∃ m, (vals ((l.take k).map dat) kind).length = m := ⟨_, rfl⟩
        have hm3 : Hid ((vals ((l.take (k + 1)).map dat) kind).length = m + 1) := by show _ = _; rw [hyy, List.length_append, hm2]; rfl
        have hmr : m < rs.length := by
          have := congrArg List.length hsp
          rw [List.length_map, List.length_append, List.length_append, hm2] at this
          simp at this
          omega
        have hbm : (rs[m]'hmr).bs = l[k].bs := by
          have h1 : (rs.map (·.bs))[m]? = some l[k].bs := by
            rw [hsp, List.append_assoc, List.getElem?_append_right (by omega), hm2, Nat.sub_self]; rfl
          rw [List.getElem?_map, List.getElem?_eq_getElem hmr] at h1
          simpa using h1
        obtain ⟨b2, off2, rfl, e0⟩ := rd_vals (T.r 0 rfl) hmr
        have k2 := hrs.out wr T.b _ (List.getElem_mem hmr)
        generalize rs[m]'hmr = r2 at hbm e0 k2
        generalize l[k] = r at c0 c1 ht k1 hbm
        obtain ⟨t, C, q, c, bs⟩ := r
        obtain ⟨t2, C2, q2, c2, bs2⟩ := r2
        simp only at c0 c1 ht e0 hbm
        obtain rfl := hbm
        obtain rfl := ht
        rw [hm2]
        have cv := fun i => conv_bytes (P := Try.prog) (wr.drewN i) (src := 27) (dst := 9) (e := 5) Try.underlying27 Try.underlying5 Try.underlying9 (cap := c) (k1.rd.drewN i) k1.len
        have cv2 := fun i => conv_bytes (P := Try.prog) (wr.drewN i) (src := 27) (dst := 9) (e := 5) Try.underlying27 Try.underlying5 Try.underlying9 (cap := c2) (k2.rd.drewN i) k2.len
        simp only at cv cv2
        have i1 : (0 : Int) ≤ (k : Int) := by omega
        have i2 : (k : Int) < (n : Int) := by omega
        have i3 : (0 : Int) ≤ (m : Int) := by omega
        have i4 : (m : Int) < (rs.length : Int) := by omega
        have i5 : ¬ (rs.length : Int) ≤ (m : Int) := by omega
        clear hy hno k1 k2 hsp hyy hm2 hml
        go_wp2_with fail
        go_quiet (fail)
        replace S := S.drewN nq
        replace T := T.drewN nq
        clear c0 c1 e0 cv cv2
        go_wp2_with fail
        go_roundw
        case rel => exact ⟨k + 1, by omega, by go_num, by rw [hm3.out]; simp, S, T⟩
        case measure => simp [intOf]; omega
      · have hm3 := Lib.hid (hno ht)
        generalize l[k] = r at c0 c1 ht
        obtain ⟨t, C, q, c, bs⟩ := r
        simp only at c0 c1 ht
        have ht' : (t != kind) = true := by simpa using ht
        clear hy hno k1
        generalize hV : (vals ((l.take k).map dat) kind).length = m
        replace hV := Lib.hid hV
        go_wp2_with fail
        go_roundw
        case rel => exact ⟨k + 1, by omega, by go_num, by rw [hm3.out, hV.out], S, T⟩
        case measure => simp [intOf]; omega
    · obtain rfl : k = n := by omega
      have hfin : (vals ((l.take k).map dat) kind).length = rs.length := by rw [← hn.out, List.take_length, hrl.out]
      rw [hfin]
      clear hfin
      go_wp2_with fail
      go_ret
      exact ⟨rfl, S.b⟩

end Go.Proofs.Ythegpmoddmnhoaa
