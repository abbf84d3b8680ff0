/-
  The contracts of slices.Clone at adjacencies and prefixes, of slices.Equal at adjacencies.
-/
import Derived.Test.YtbkpholkjgjicaaGreatTake
import Derived.Test.YtbkpholkjgjicaaGreatSlEq
namespace Go.Proofs.YtbkpholkjgjicaaGreat
set_option linter.unusedVariables false
open Go.RowKit

def ClonePost (w : World) (T : TypeId) (size n : Nat) (xs : List Value) (e : Ending) (w' : World) : Prop :=
  ∃ A c, e = .returned (.slice A n c) ∧ w'.ownsRow w.heap.size T size (.slice A n c) n xs ∧ Below w.heap.size w w'

set_option maxRecDepth 100000 in
set_option maxHeartbeats 800000 in
theorem clone_ad (w : World) (A : Option Addr) (n c : Nat) (l : List Ad) (hr : Rd w A (adV l)) (hn : l.length = n) (hb : n ≤ 1000000) :
    Calls Tryz.prog 109 #[.slice A n c] w (ClonePost w 134 3 n (adV l)) := by
  rcases A with _ | ad
  · have h0 := hr.nil_len
    rw [adV_len] at h0
    obtain rfl : l = [] := List.eq_nil_of_length_eq_zero (by omega)
    subst hn
    have hE := fun W => Lib.run_eql_slice_nil W 49 134 none 0 c 0 0 Tryz.underlying49
    go_enter Tryz.func109, Tryz.ntmps109
    go_wp2_with fail
    go_ret
    exact ⟨none, 0, rfl, World.ownsRow_nil _ _ _ _, Below.refl _ _⟩
  · have hl : (adV l).length = n * 3 := by rw [adV_len, hn]
    clear hn
    have hE := fun W => Lib.run_eql_slice_nil W 49 134 (some ad) n c 0 0 Tryz.underlying49
    go_enter Tryz.func109, Tryz.ntmps109
    go_wp2_with (at_builtin; refine wpList_app rfl adT (.tmp 5) (.tmp 6) rfl w.heap.size rfl (own_empty _ _ _) (m := n) rfl hl (hr.below (below_new' _ _)) (adV_one l) (by simp only [maxLen]; omega) (by omega) (by simp) n (adV l) (by omega) (by simp) ?_; intro v' w' ho hb')
    go_ret
    obtain ⟨A', c', rfl, _⟩ := own_rd ho
    exact ⟨A', c', rfl, ho, (below_new' _ _).trans hb'⟩

set_option maxRecDepth 100000 in
set_option maxHeartbeats 800000 in
theorem clone_pf (w : World) (A : Option Addr) (n c : Nat) (l : List Pf) (hr : Rd w A (pfV l)) (hn : l.length = n) (hb : n ≤ 1000000) :
    Calls Tryz.prog 40 #[.slice A n c] w (ClonePost w 100 2 n (pfV l)) := by
  rcases A with _ | ad
  · have h0 := hr.nil_len
    rw [pfV_len] at h0
    obtain rfl : l = [] := List.eq_nil_of_length_eq_zero (by omega)
    subst hn
    have hE := fun W => Lib.run_eql_slice_nil W 50 100 none 0 c 0 0 Tryz.underlying50
    go_enter Tryz.func40, Tryz.ntmps40
    go_wp2_with fail
    go_ret
    exact ⟨none, 0, rfl, World.ownsRow_nil _ _ _ _, Below.refl _ _⟩
  · have hl : (pfV l).length = n * 2 := by rw [pfV_len, hn]
    clear hn
    have hE := fun W => Lib.run_eql_slice_nil W 50 100 (some ad) n c 0 0 Tryz.underlying50
    go_enter Tryz.func40, Tryz.ntmps40
    go_wp2_with (at_builtin; refine wpList_app rfl pfT (.tmp 5) (.tmp 6) rfl w.heap.size rfl (own_empty _ _ _) (m := n) rfl hl (hr.below (below_new' _ _)) (pfV_one l) (by simp only [maxLen]; omega) (by omega) (by simp) n (pfV l) (by omega) (by simp) ?_; intro v' w' ho hb')
    go_ret
    obtain ⟨A', c', rfl, _⟩ := own_rd ho
    exact ⟨A', c', rfl, ho, (below_new' _ _).trans hb'⟩

set_option maxRecDepth 100000 in
set_option maxHeartbeats 3200000 in
theorem sleq_ad2 (w : World) (A B : Option Addr) (n c m d : Nat) (xs ys : List Ad) (hA : Rd w A (adV xs)) (hB : Rd w B (adV ys)) (hn : xs.length = n) (hm : ys.length = m) (b1 : n ≤ 9223372036854775807) :
    Calls Tryz.prog 117 #[.slice A n c, .slice B m d] w fun e w' => e = .returned (.bool (decide (xs = ys))) ∧ Below w.heap.size w w' := by
  obtain ⟨R, hR⟩ : ∃ R, decide (xs = ys) = R := ⟨_, rfl⟩
  rw [hR]
  have hF : xs ≠ ys → R = false := fun h => by rw [← hR]; exact decide_eq_false h
  have hT : xs = ys → R = true := fun h => by rw [← hR]; exact decide_eq_true h
  clear hR
  by_cases hnm : n = m
  rotate_left
  · obtain rfl := hF (fun h => hnm (by rw [← hn, ← hm, h]))
    have e2b : ((n : Int) != (m : Int)) = true := by simp; omega
    clear hnm hn hm hF hT
    go_enter Tryz.func117, Tryz.ntmps117
    go_wp2_with fail
    go_ret
    exact ⟨rfl, Below.refl _ _⟩
  subst hnm
  have S := ((St.start w).read hB).read hA
  clear hA hB
  replace hn := Lib.hid hn
  replace hm := Lib.hid hm
  replace hF := Lib.hid hF
  replace hT := Lib.hid hT
  go_enter Tryz.func117, Tryz.ntmps117
  go_wp2_with fail
  go_loopw [13] (fun v13 wr => ∃ i : Nat, v13 = .int .i64 i ∧ i ≤ n ∧ Hid (xs.take i = ys.take i) ∧ St w wr [] [(A, adV xs), (B, adV ys)]) (fun v13 _ => n - (intOf v13).toNat)
  case atStart => exact ⟨0, rfl, by omega, rfl, S⟩
  case round =>
    clear S
    obtain ⟨i, rfl, hi, htk, S⟩ := hrel
    by_cases him : i < n
    · have hkl : i < xs.length := by have := hn.out; omega
      have hkl' : i < ys.length := by have := hm.out; omega
      obtain ⟨b, off, rfl, hc⟩ := rd_ad (S.r 0 rfl) (by omega)
      obtain ⟨b', off', rfl, hc'⟩ := rd_ad (S.r 1 rfl) (by omega)
      obtain ⟨x0, x1, x2⟩ := hc i hkl
      obtain ⟨y0, y1, y2⟩ := hc' i hkl'
      have hs1 := List.take_succ_eq_append_getElem hkl
      have hs2 := List.take_succ_eq_append_getElem hkl'
      have hne : xs[i] ≠ ys[i] → R = false := fun h => hF.out (fun h2 => h (by subst h2; rfl))
      clear hc hc'
      generalize xs[i] = x at *
      generalize ys[i] = y at *
      obtain ⟨p0, p1, p2⟩ := x
      obtain ⟨q0, q1, q2⟩ := y
      simp only at x0 x1 x2 y0 y1 y2
      have NE := fun W => neq_ad W (p0, p1, p2) (q0, q1, q2)
      have hG := ad_guard
      by_cases e : (p0, p1, p2) = (q0, q1, q2)
      · have htk2 : Hid (xs.take (i + 1) = ys.take (i + 1)) := by show _ = _; rw [hs1, hs2, htk.out, e]
        rw [decide_eq_true e] at NE
        clear hs1 hs2 hne e
        go_wp2_with fail
        go_quiet (fail)
        go_wp2_with fail
        go_round
        case rel => exact ⟨i + 1, by go_num, by omega, htk2, S.drewN nq⟩
        case measure => simp [intOf]; omega
      · obtain rfl := hne e
        rw [decide_eq_false e] at NE
        clear hs1 hs2 hne e
        go_wp2_with fail
        go_quiet (fail)
        go_wp2_with fail
        go_ret
        exact ⟨rfl, below_drewN S.b nq⟩
    · obtain rfl : i = n := by omega
      have heq : xs = ys := by
        have := htk.out
        rwa [List.take_of_length_le (by have := hn.out; omega), List.take_of_length_le (by have := hm.out; omega)] at this
      obtain rfl := hT.out heq
      clear heq
      go_wp2_with fail
      go_ret
      exact ⟨rfl, S.b⟩

end Go.Proofs.YtbkpholkjgjicaaGreat
