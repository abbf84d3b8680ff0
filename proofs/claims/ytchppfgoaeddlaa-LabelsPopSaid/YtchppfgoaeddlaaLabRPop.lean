/-
  The contract of the reference's Pop.
-/
import Derived.Test.YtchppfgoaeddlaaLabPopW
import Derived.Test.YtchppfgoaeddlaaLabRUnp
import Derived.Test.YtchppfgoaeddlaaLabUnpLaw
namespace Go.Proofs.Ytchppfgoaeddlaa
set_option linter.unusedVariables false
open Go.RowKit

set_option maxHeartbeats 4000000 in
theorem rpop_any (A : Option Addr) (n cap : Nat) (bs : List UInt8) (w : World) (hr : Bs w A bs) (hn : bs.length = n) (hn2 : n ≤ 1000000) (hcap : n ≤ cap) :
    Calls Try.prog 21 #[.slice A n cap] w fun e w' =>
      ∃ v, e = .returned (.tuple #[.agg #[.int .i64 (popS bs).1, .int .i64 (popS bs).2], v, .int .i64 (popE bs)]) ∧ w'.ownsRow w.heap.size 5 1 v (popR bs).length ((popR bs).map u8v) ∧ Below w.heap.size w w' := by
  have S := ((St.start w).read hr).new' #[.int .i64 0, .int .i64 0] 30 w.heap.size [.int .i64 0, .int .i64 0] rfl rfl
  have U := fun W hR => runpack_any A n cap bs W hR hn hn2
  by_cases hg : good bs = true
  · have hE : unE bs = 0 := by unfold unE; rw [if_pos hg]
    rw [hE] at U
    rcases hL : unL bs with _ | ⟨s, r⟩
    · have e1 : popE bs = 8 := by unfold popE; rw [if_pos hg, if_pos hL]
      have e2 : popS bs = (0, 0) := by unfold popS; rw [hL]; rfl
      have e3 : popR bs = [] := by unfold popR; rw [if_pos hL]
      rw [e1, e2, e3]
      rw [hL] at U
      replace U := Lib.hid U
      clear e1 e2 e3 hE hn hL hg hr
      go_enter Try.func21, Try.ntmps21
      go_wp2_with fail
      (with_reducible refine (U.out _ (S.r 0 rfl)).mono ?_)
      rintro e w1 ⟨v, rfl, hown, hb⟩
      replace S := S.call hb
      clear hb U
      obtain ⟨A2, c2, rfl, rd2, _, _⟩ := own_rd hown
      have c0 := S.c 0 0 rfl rfl
      have c1 := S.c 0 1 rfl rfl
      have f0 := S.f 0 0 rfl rfl
      have f1 := S.f 0 1 rfl rfl
      go_wp2_with fail
      have S2 := S.set2 0 (.int .i64 0) (.int .i64 0) rfl (Nat.le_refl _) (by simp) [_] rfl
      have e0 := S2.c 0 0 rfl rfl
      have e1 := S2.c 0 1 rfl rfl
      exact bodyPost_ret (v := .tuple #[.agg #[.int .i64 0, .int .i64 0], .slice none 0 0, .int .i64 8]) (by simp [results, Try.results21, go_sem, e0, e1]) rfl ⟨_, rfl, World.ownsRow_nil _ _ _ _, S2.b⟩
    · obtain ⟨g1, g2, g3, g4, g5⟩ := good_parts bs s r hg hL
      obtain ⟨p, q⟩ := s
      have e1 : popE bs = 0 := by unfold popE; rw [if_pos hg, if_neg (by rw [hL]; simp)]
      have e2 : popS bs = (p, q) := by unfold popS; rw [hL]; rfl
      have e3 : popR bs = packR r (unC bs) (unT bs) := by unfold popR; rw [if_neg (by rw [hL]; simp), g4]
      rw [e1, e2, e3]
      rw [hL] at U
      have UL : Hid (((p, q) :: r).length = r.length + 1) := rfl
      have hrl : r.length ≤ 1000000 := by
        have := unL_len bs
        rw [hL] at this
        simp at this
        omega
      clear e1 e2 e3 hE hL hg hr g1 g2 g4 g3 g5
      rw [UL.out] at U
      generalize unC bs = C at U ⊢
      generalize unT bs = T at U ⊢
      replace U := Lib.hid U
      clear hn
      obtain ⟨m, hm⟩ : ∃ m, r.length = m := ⟨_, rfl⟩
      rw [hm] at U hrl
      replace hm := Lib.hid hm
      go_enter Try.func21, Try.ntmps21
      go_wp2_with fail
      (with_reducible refine (U.out _ (S.r 0 rfl)).mono ?_)
      rintro e w1 ⟨v, rfl, hown, hb⟩
      replace S := S.call hb
      clear hb U
      obtain ⟨g6, c6, rfl, hg6, hg6b, hown6⟩ := own_form hown (by omega)
      obtain ⟨A', c', hA', rd6, hmc, hcm⟩ := own_rd hown6
      unfold maxLen at hcm
      obtain ⟨rfl, rfl⟩ : some ⟨g6, 0, none⟩ = A' ∧ c6 = c' := by simpa using hA'
      clear hA' hown hown6
      have rd7 : Rd w1 (some ⟨g6, 2, none⟩) (segs r) := by
        have := rd6.drop 2
        simpa [segs, Addr.add] using this
      obtain ⟨b6, off6, hA6, d0, d1⟩ := rd_segs (l := (p, q) :: r) (k := 0) rd6 (by simp)
      obtain ⟨rfl, rfl⟩ : g6 = b6 ∧ 0 = off6 := by simpa using hA6
      clear hA6 rd6
      replace d0 : w1.cell? ⟨g6, 0, none⟩ = some (.int .i64 p) := d0
      replace d1 : w1.cell? ⟨g6, 1, none⟩ = some (.int .i64 q) := d1
      replace hg6 : w.heap.size + 1 ≤ g6 := by simpa using hg6
      by_cases hc : c6 = 1
      · obtain rfl : 1 = c6 := hc.symm
        clear hc
        obtain rfl : m = 0 := by omega
        have hrn : r = [] := List.eq_nil_of_length_eq_zero hm.out
        subst hrn
        have X := Lib.hid (fun W => rpack_any (some ⟨g6, 0, none⟩) 0 0 [] C T W (Rd.nil _ _) rfl (by omega))
        go_wp2_with fail
        (with_reducible refine (X.out _).mono ?_)
        rintro e w3 ⟨v3, rfl, hown3, hb3⟩
        replace S := S.call hb3
        replace d0 := cell_later hb3 d0
        replace d1 := cell_later hb3 d1
        have c0 := S.c 0 0 rfl rfl
        have c1 := S.c 0 1 rfl rfl
        have f0 := S.f 0 0 rfl rfl
        have f1 := S.f 0 1 rfl rfl
        have S2 := S.set2 0 (.int .i64 p) (.int .i64 q) rfl (Nat.le_refl _) (by simp) [_] rfl
        have e0 := S2.c 0 0 rfl rfl
        have e1 := S2.c 0 1 rfl rfl
        have hlt : w.heap.size + 1 ≤ w1.heap.size := Nat.le_trans hg6 (Nat.le_of_lt hg6b)
        have hown4 := own_mono (ownsRow_setCell_below (ownsRow_setCell_below hown3 (a := ⟨w.heap.size, 0, none⟩) hlt (.int .i64 p)) (a := ⟨w.heap.size, 1, none⟩) hlt (.int .i64 q)) (show w.heap.size ≤ w1.heap.size by omega)
        clear hown3 hb3 X hlt
        replace e0 := Lib.hid e0
        replace e1 := Lib.hid e1
        go_wp2_with fail
        exact bodyPost_ret (v := .tuple #[.agg #[.int .i64 p, .int .i64 q], v3, .int .i64 0]) (by simp [results, Try.results21, go_sem, e0.out, e1.out]) rfl ⟨_, rfl, hown4, S2.b⟩
      · have X := Lib.hid (fun W hR => rpack_any (some ⟨g6, 2, none⟩) m (c6 - 1) r C T W hR hm.out (by omega))
        go_wp2_with fail
        (with_reducible refine (X.out _ rd7).mono ?_)
        rintro e w3 ⟨v3, rfl, hown3, hb3⟩
        replace S := S.call hb3
        replace d0 := cell_later hb3 d0
        replace d1 := cell_later hb3 d1
        have c0 := S.c 0 0 rfl rfl
        have c1 := S.c 0 1 rfl rfl
        have f0 := S.f 0 0 rfl rfl
        have f1 := S.f 0 1 rfl rfl
        have S2 := S.set2 0 (.int .i64 p) (.int .i64 q) rfl (Nat.le_refl _) (by simp) [_] rfl
        have e0 := S2.c 0 0 rfl rfl
        have e1 := S2.c 0 1 rfl rfl
        have hlt : w.heap.size + 1 ≤ w1.heap.size := Nat.le_trans hg6 (Nat.le_of_lt hg6b)
        have hown4 := own_mono (ownsRow_setCell_below (ownsRow_setCell_below hown3 (a := ⟨w.heap.size, 0, none⟩) hlt (.int .i64 p)) (a := ⟨w.heap.size, 1, none⟩) hlt (.int .i64 q)) (show w.heap.size ≤ w1.heap.size by omega)
        clear hown3 hb3 X hlt
        replace e0 := Lib.hid e0
        replace e1 := Lib.hid e1
        go_wp2_with fail
        exact bodyPost_ret (v := .tuple #[.agg #[.int .i64 p, .int .i64 q], v3, .int .i64 0]) (by simp [results, Try.results21, go_sem, e0.out, e1.out]) rfl ⟨_, rfl, hown4, S2.b⟩
  · have hE : unE bs = 4 := by unfold unE; rw [if_neg hg]
    have hL : unL bs = [] := by unfold unL; rw [if_neg hg]
    have e1 : popE bs = 4 := by unfold popE; rw [if_neg hg]
    have e2 : popS bs = (0, 0) := by unfold popS; rw [hL]; rfl
    have e3 : popR bs = [] := by unfold popR; rw [if_pos hL]
    rw [e1, e2, e3]
    rw [hE, hL] at U
    replace U := Lib.hid U
    clear e1 e2 e3 hE hn hL hg hr
    go_enter Try.func21, Try.ntmps21
    go_wp2_with fail
    (with_reducible refine (U.out _ (S.r 0 rfl)).mono ?_)
    rintro e w1 ⟨v, rfl, hown, hb⟩
    replace S := S.call hb
    clear hb U
    have c0 := S.c 0 0 rfl rfl
    have c1 := S.c 0 1 rfl rfl
    have f0 := S.f 0 0 rfl rfl
    have f1 := S.f 0 1 rfl rfl
    go_wp2_with fail
    have S2 := S.set2 0 (.int .i64 0) (.int .i64 0) rfl (Nat.le_refl _) (by simp) [_] rfl
    have e0 := S2.c 0 0 rfl rfl
    have e1 := S2.c 0 1 rfl rfl
    exact bodyPost_ret (v := .tuple #[.agg #[.int .i64 0, .int .i64 0], .slice none 0 0, .int .i64 4]) (by simp [results, Try.results21, go_sem, e0, e1]) rfl ⟨_, rfl, World.ownsRow_nil _ _ _ _, S2.b⟩

end Go.Proofs.Ytchppfgoaeddlaa
