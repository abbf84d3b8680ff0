/-
  The contract of labels.Pop.
-/
import Derived.Test.YtchppfgoaeddlaaLabPop
import Derived.Deep.RegionWith
import Derived.Test.YtchppfgoaeddlaaBytes
namespace Go.Proofs.Ytchppfgoaeddlaa
set_option linter.unusedVariables false
open Go.RowKit

/-- What Pop answers. -/
def popE (bs : List UInt8) : Int := if good bs = true then (if unL bs = [] then 8 else 0) else 4
def popS (bs : List UInt8) : Int × Int := (unL bs).headD (0, 0)
def popR (bs : List UInt8) : List UInt8 := if unL bs = [] then [] else bs.drop 4

set_option maxHeartbeats 4000000 in
theorem pop_any (A : Option Addr) (n cap : Nat) (bs : List UInt8) (w : World) (hr : Bs w A bs) (hn : bs.length = n) (hn2 : n ≤ 1000000) (hcap : n ≤ cap) :
    Calls Try.prog 20 #[.slice A n cap] w fun e w' =>
      ∃ v, e = .returned (.tuple #[.agg #[.int .i64 (popS bs).1, .int .i64 (popS bs).2], v, .int .i64 (popE bs)]) ∧ w'.ownsRow w.heap.size 5 1 v (popR bs).length ((popR bs).map u8v) ∧ Below w.heap.size w w' := by
  have S := ((St.start w).read hr).new' #[.int .i64 0, .int .i64 0] 30 w.heap.size [.int .i64 0, .int .i64 0] rfl rfl
  have U := fun W hR => unpack_any A n cap bs W hR hn hn2
  by_cases hg : good bs = true
  · have hE : unE bs = 0 := by unfold unE; rw [if_pos hg]
    rw [hE] at U
    rcases hL : unL bs with _ | ⟨s, r⟩
    · have e1 : popE bs = 8 := by unfold popE; rw [if_pos hg, if_pos hL]
      have e2 : popS bs = (0, 0) := by unfold popS; rw [hL]; rfl
      have e3 : popR bs = [] := by unfold popR; rw [if_pos hL]
      rw [e1, e2, e3]
      rw [hL] at U
      replace U := Lib.hid U
      clear e1 e2 e3 hE hn hL hg hr
      go_enter Try.func20, Try.ntmps20
      go_wp2_with fail
      (with_reducible refine (U.out _ (S.r 0 rfl)).mono ?_)
      rintro e w1 ⟨v, rfl, hown, hb⟩
      replace S := S.call hb
      clear hb U
      obtain ⟨A2, c2, rfl, rd2, _, _⟩ := own_rd hown
      have c0 := S.c 0 0 rfl rfl
      have c1 := S.c 0 1 rfl rfl
      have f0 := S.f 0 0 rfl rfl
      have f1 := S.f 0 1 rfl rfl
      go_wp2_with fail
      have S2 := S.set2 0 (.int .i64 0) (.int .i64 0) rfl (Nat.le_refl _) (by simp) [_] rfl
      have e0 := S2.c 0 0 rfl rfl
      have e1 := S2.c 0 1 rfl rfl
      exact bodyPost_ret (v := .tuple #[.agg #[.int .i64 0, .int .i64 0], .slice none 0 0, .int .i64 8]) (by simp [results, Try.results20, go_sem, e0, e1]) rfl ⟨_, rfl, World.ownsRow_nil _ _ _ _, S2.b⟩
    · obtain ⟨g1, g2, g3, g4, g5⟩ := good_parts bs s r hg hL
      obtain ⟨p, q⟩ := s
      have e1 : popE bs = 0 := by unfold popE; rw [if_pos hg, if_neg (by rw [hL]; simp)]
      have e2 : popS bs = (p, q) := by unfold popS; rw [hL]; rfl
      have e3 : popR bs = bs.drop 4 := by unfold popR; rw [if_neg (by rw [hL]; simp)]
      rw [e1, e2, e3]
      rw [hL] at U
      replace U := Lib.hid U
      have UL : Hid (((p, q) :: r).length = r.length + 1) := rfl
      clear e1 e2 e3 hE hL hg hr g1 g2 g4 g5
      rw [UL.out] at U
      rw [hn] at g3
      have hn4 : Hid ((bs.drop 4).length = n - 4) := by show _ = _; rw [List.length_drop, hn]
      have hnn := Lib.hid hn
      clear hn
      go_enter Try.func20, Try.ntmps20
      go_wp2_with fail
      (with_reducible refine (U.out _ (S.r 0 rfl)).mono ?_)
      rintro e w1 ⟨v, rfl, hown, hb⟩
      replace S := S.call hb
      clear hb U
      obtain ⟨g6, c6, rfl, hg6, hg6b, hown6⟩ := own_form hown (by omega)
      obtain ⟨A', c', hA', rd6, _, _⟩ := own_rd hown6
      obtain ⟨rfl, rfl⟩ : some ⟨g6, 0, none⟩ = A' ∧ c6 = c' := by simpa using hA'
      clear hA' hown hown6
      obtain ⟨b6, off6, hA6, d0, d1⟩ := rd_segs (l := (p, q) :: r) (k := 0) rd6 (by simp)
      obtain ⟨rfl, rfl⟩ : g6 = b6 ∧ 0 = off6 := by simpa using hA6
      clear hA6 rd6
      replace d0 : w1.cell? ⟨g6, 0, none⟩ = some (.int .i64 p) := d0
      replace d1 : w1.cell? ⟨g6, 1, none⟩ = some (.int .i64 q) := d1
      replace hg6 : w.heap.size + 1 ≤ g6 := by simpa using hg6
      obtain ⟨b, off, rfl, hbb⟩ := rd_at (S.r 0 rfl) (by rw [List.length_map, hnn.out]; omega)
      clear hbb
      have c0 := S.c 0 0 rfl rfl
      have c1 := S.c 0 1 rfl rfl
      have f0 := S.f 0 0 rfl rfl
      have f1 := S.f 0 1 rfl rfl
      go_wp2_with fail
      by_cases hc4 : cap = 4
      · subst hc4
        have hnil : bs.drop 4 = [] := List.drop_eq_nil_of_le (by rw [hnn.out]; omega)
        have X := Lib.hid (fun W => clone_any (some ⟨b, off, none⟩) 0 0 [] W (Rd.nil _ _) rfl (by omega))
        replace hnil := Lib.hid hnil
        go_region_with (go_at_call 28; refine (X.out _).mono ?_; rintro e w3 ⟨v3, rfl, hown3, hb3⟩; replace S := S.drew.call hb3; replace d0 := cell_later hb3 (show w1.drew.cell? _ = _ from d0); replace d1 := cell_later hb3 (show w1.drew.cell? _ = _ from d1); replace c0 := S.c 0 0 rfl rfl; replace c1 := S.c 0 1 rfl rfl; replace f0 := S.f 0 0 rfl rfl; replace f1 := S.f 0 1 rfl rfl)
        all_goals
          have S2 := S.set2 0 (.int .i64 p) (.int .i64 q) rfl (Nat.le_refl _) (by simp) [_] rfl
          have e0 := S2.c 0 0 rfl rfl
          have e1 := S2.c 0 1 rfl rfl
          have hlt : w.heap.size + 1 ≤ w1.drew.heap.size := Nat.le_trans hg6 (Nat.le_of_lt hg6b)
          have hown4 := own_mono (ownsRow_setCell_below (ownsRow_setCell_below hown3 (a := ⟨w.heap.size, 0, none⟩) hlt (.int .i64 p)) (a := ⟨w.heap.size, 1, none⟩) hlt (.int .i64 q)) (show w.heap.size ≤ w1.drew.heap.size by omega)
          clear hown3 hb3 X hlt c0 c1 f0 f1 d0 d1
          go_wp2_with fail
          refine bodyPost_ret (v := .tuple #[.agg #[.int .i64 p, .int .i64 q], v3, .int .i64 0]) (by simp [results, Try.results20, go_sem, e0, e1]) rfl ⟨_, rfl, ?_, S2.b⟩
          rw [hnil.out]; exact hown4
      · have hrd : Rd w (some ⟨b, off + 4, none⟩) ((bs.drop 4).map u8v) := by
          have := (S.rd 0 _ rfl).drop 4
          rw [← List.map_drop] at this
          simpa [Addr.add] using this
        replace S := S.read hrd
        clear hrd
        have X := Lib.hid (fun W hR => clone_any (some ⟨b, off + 4, none⟩) (n - 4) (cap - 4) (bs.drop 4) W hR hn4.out (by omega))
        go_region_with (go_at_call 28; refine (X.out _ (S.drew.r 0 rfl)).mono ?_; rintro e w3 ⟨v3, rfl, hown3, hb3⟩; replace S := S.drew.call hb3; replace d0 := cell_later hb3 (show w1.drew.cell? _ = _ from d0); replace d1 := cell_later hb3 (show w1.drew.cell? _ = _ from d1); replace c0 := S.c 0 0 rfl rfl; replace c1 := S.c 0 1 rfl rfl; replace f0 := S.f 0 0 rfl rfl; replace f1 := S.f 0 1 rfl rfl)
        all_goals
          have S2 := S.set2 0 (.int .i64 p) (.int .i64 q) rfl (Nat.le_refl _) (by simp) [_] rfl
          have e0 := S2.c 0 0 rfl rfl
          have e1 := S2.c 0 1 rfl rfl
          have hlt : w.heap.size + 1 ≤ w1.drew.heap.size := Nat.le_trans hg6 (Nat.le_of_lt hg6b)
          have hown4 := own_mono (ownsRow_setCell_below (ownsRow_setCell_below hown3 (a := ⟨w.heap.size, 0, none⟩) hlt (.int .i64 p)) (a := ⟨w.heap.size, 1, none⟩) hlt (.int .i64 q)) (show w.heap.size ≤ w1.drew.heap.size by omega)
          clear hown3 hb3 X hlt c0 c1 f0 f1 d0 d1
          go_wp2_with fail
          refine bodyPost_ret (v := .tuple #[.agg #[.int .i64 p, .int .i64 q], v3, .int .i64 0]) (by simp [results, Try.results20, go_sem, e0, e1]) rfl ⟨_, rfl, ?_, S2.b⟩
          rw [hn4.out]; exact hown4
  · have hE : unE bs = 4 := by unfold unE; rw [if_neg hg]
    have hL : unL bs = [] := by unfold unL; rw [if_neg hg]
    have e1 : popE bs = 4 := by unfold popE; rw [if_neg hg]
    have e2 : popS bs = (0, 0) := by unfold popS; rw [hL]; rfl
    have e3 : popR bs = [] := by unfold popR; rw [if_pos hL]
    rw [e1, e2, e3]
    rw [hE, hL] at U
    replace U := Lib.hid U
    clear e1 e2 e3 hE hn hL hg hr
    go_enter Try.func20, Try.ntmps20
    go_wp2_with fail
    (with_reducible refine (U.out _ (S.r 0 rfl)).mono ?_)
    rintro e w1 ⟨v, rfl, hown, hb⟩
    replace S := S.call hb
    clear hb U
    have c0 := S.c 0 0 rfl rfl
    have c1 := S.c 0 1 rfl rfl
    have f0 := S.f 0 0 rfl rfl
    have f1 := S.f 0 1 rfl rfl
    go_wp2_with fail
    have S2 := S.set2 0 (.int .i64 0) (.int .i64 0) rfl (Nat.le_refl _) (by simp) [_] rfl
    have e0 := S2.c 0 0 rfl rfl
    have e1 := S2.c 0 1 rfl rfl
    exact bodyPost_ret (v := .tuple #[.agg #[.int .i64 0, .int .i64 0], .slice none 0 0, .int .i64 4]) (by simp [results, Try.results20, go_sem, e0, e1]) rfl ⟨_, rfl, World.ownsRow_nil _ _ _ _, S2.b⟩

end Go.Proofs.Ytchppfgoaeddlaa
