/-
  The walk of the statement on scripts of hellos and ticks.
-/
import Derived.Test.YtpjbblmhpkapnaaHelFlat
import Derived.OpenShut
import Derived.Deep.RegionWith
import Derived.Lib.QuietBelow
namespace Go.Proofs.Ytpjbblmhpkapnaa
set_option linter.unusedVariables false
open Go.RowKit Go.Sort

/-- What is known of a state after some steps: down; heard; up. -/
def Three (L : Int) (seen up : Bool) (P : Int) : Prop := (L = 0 ∧ up = false ∧ P = 0) ∨ (0 < L ∧ L ≤ 65536 ∧ seen = false ∧ up = false ∧ P = 1) ∨ (0 < L ∧ L ≤ 65536 ∧ seen = true ∧ up = true ∧ P = 2)

set_option maxRecDepth 100000 in
set_option maxHeartbeats 8000000 in
theorem script_law (w : World) (A : Option Addr) (n c : Nat) (ls : List (Bool × Bool × Int)) (hr : Rd w A (flat3 ls)) (hn : ls.length = n) (hm : n ≤ maxLen) (hz : ∀ x ∈ ls, (Lit.int .i64 x.2.2).wf = true) :
    Calls Try.prog 5 #[.slice A n c] w fun e w' => e = .returned (.bool true) ∧ RowKit.Below w.heap.size w w' := by
  subst hn
  unfold maxLen at hm
  have S := (St.start w).read hr
  replace hz := Lib.hid hz
  clear hr
  go_enter Try.func5, Try.ntmps5
  go_wp2_with fail
  (with_reducible refine (awake_any _).mono ?_)
  rintro e w1 ⟨rfl, hb⟩
  replace S := S.call hb
  clear hb
  by_cases hl : 60 < ls.length
  · have hl' : (60 : Int) < ls.length := by omega
    go_wp2_with fail
    go_ret
    exact ⟨rfl, S.b⟩
  have hl' : ¬ (60 : Int) < ls.length := by omega
  have hb1 := S.b.size
  replace S := (S.new' #[.int .i64 0, .int .i64 0] 25 w1.heap.size [.int .i64 0, .int .i64 0] rfl rfl)
  go_wp2_with fail
  generalize (w1.alloc (.cells #[.int .i64 0, .int .i64 0] 25)) = w2 at *
  go_loopw [4, 5, 6, 7] (fun v4 v5 v6 v7 wr => ∃ (k : Nat) (up seen : Bool) (L P : Int), k ≤ ls.length ∧ v7 = .int .i64 k ∧ v4 = .bool up ∧ v5 = .int .i64 L ∧ v6 = .bool seen ∧ Hid (Three L seen up P) ∧
    St w wr [(w1.heap.size, [.int .i64 P, .int .i64 L])] [(A, flat3 ls)]) (fun _ _ _ v7 _ => ls.length - (intOf v7).toNat)
  case atStart => exact ⟨0, false, false, 0, 0, Nat.zero_le _, rfl, rfl, rfl, rfl, .inl ⟨rfl, rfl, rfl⟩, S⟩
  case round =>
    clear S
    obtain ⟨k, up, seen, L, P, hk, rfl, rfl, rfl, rfl, hT, S⟩ := hrel
    by_cases hlt : k < ls.length
    · obtain ⟨b, off, rfl, e0, e1, e2⟩ := rd_flat3 (S.r 0 rfl) hlt
      have hw := bounds_i64 (hz.out ls[k] (List.getElem_mem hlt))
      obtain ⟨hz0, hz1⟩ := hw
      generalize ls[k].2.2 = z at *
      generalize ls[k].2.1 = sq at *
      generalize ls[k].1 = hq at *
      have i0 : (0 : Int) ≤ (k : Int) := by omega
      have i1 : (k : Int) < (ls.length : Int) := by omega
      have c0 := S.c 0 0 rfl rfl
      have c1 := S.c 0 1 rfl rfl
      cases hq
      · rcases hT.out with ⟨rfl, rfl, rfl⟩ | ⟨t0, t1, rfl, rfl, rfl⟩ | ⟨t0, t1, rfl, rfl, rfl⟩
        · have X := fun W => tick_ok 0 0 z W (rfl)
          have a1 : tkP 0 0 z = 0 := by simp [tkP]
          have a2 : tkL 0 0 z = 0 := by simp [tkL]
          simp only [a1, a2] at X
          replace X := Lib.hid X
          clear a1 a2 hT
          have ev : evt 0 0 = 0 := rfl
          go_wp2_with fail
          (with_reducible refine (X.out _).mono ?_)
          rintro e w3 ⟨rfl, hb⟩
          replace S := S.call hb
          clear c0 c1 e0 e1 e2 X hb
          have c0 := S.c 0 0 rfl rfl
          have c1 := S.c 0 1 rfl rfl
          have f0 := S.f 0 0 rfl rfl
          have f1 := S.f 0 1 rfl rfl
          replace S := S.set2 0 (.int .i64 0) (.int .i64 0) rfl (by omega) (by simp) [_] rfl
          go_wp2_with fail
          all_goals
            go_roundw
            case rel => exact ⟨k + 1, false, seen, 0, 0, by omega, by go_num, rfl, by first | rfl | (simp; omega), rfl, .inl ⟨rfl, rfl, rfl⟩, S⟩
            case measure => simp [intOf]; omega
        · by_cases h1 : z ≤ 0
          · have X := fun W => tick_ok 1 L z W (by simp [vld]; omega)
            have a1 : tkP 1 L z = 1 := by simp [tkP, h1]
            have a2 : tkL 1 L z = L := by simp [tkL, h1]
            simp only [a1, a2] at X
            replace X := Lib.hid X
            clear a1 a2 hT
            have ev : evt 1 1 = 0 := rfl
            go_wp2_with fail
            (with_reducible refine (X.out _).mono ?_)
            rintro e w3 ⟨rfl, hb⟩
            replace S := S.call hb
            clear c0 c1 e0 e1 e2 X hb
            have c0 := S.c 0 0 rfl rfl
            have c1 := S.c 0 1 rfl rfl
            have f0 := S.f 0 0 rfl rfl
            have f1 := S.f 0 1 rfl rfl
            replace S := S.set2 0 (.int .i64 1) (.int .i64 L) rfl (by omega) (by simp) [_] rfl
            go_wp2_with fail
            all_goals
              go_roundw
              case rel => exact ⟨k + 1, false, false, L, 1, by omega, by go_num, rfl, by first | rfl | (simp; omega), rfl, .inr (.inl ⟨by omega, by omega, rfl, rfl, rfl⟩), S⟩
              case measure => simp [intOf]; omega
          · by_cases h2 : L ≤ z
            · have X := fun W => tick_ok 1 L z W (by simp [vld]; omega)
              have a1 : tkP 1 L z = 0 := by simp only [tkP]; rw [if_neg (by omega), if_pos h2]
              have a2 : tkL 1 L z = 0 := by simp only [tkL]; rw [if_neg (by omega), if_pos h2]
              simp only [a1, a2] at X
              replace X := Lib.hid X
              clear a1 a2 hT
              have ev : evt 1 0 = 0 := rfl
              go_wp2_with fail
              (with_reducible refine (X.out _).mono ?_)
              rintro e w3 ⟨rfl, hb⟩
              replace S := S.call hb
              clear c0 c1 e0 e1 e2 X hb
              have c0 := S.c 0 0 rfl rfl
              have c1 := S.c 0 1 rfl rfl
              have f0 := S.f 0 0 rfl rfl
              have f1 := S.f 0 1 rfl rfl
              replace S := S.set2 0 (.int .i64 0) (.int .i64 0) rfl (by omega) (by simp) [_] rfl
              go_wp2_with fail
              all_goals
                go_roundw
                case rel => exact ⟨k + 1, false, false, 0, 0, by omega, by go_num, rfl, by first | rfl | (simp; omega), rfl, .inl ⟨rfl, rfl, rfl⟩, S⟩
                case measure => simp [intOf]; omega
            · have X := fun W => tick_ok 1 L z W (by simp [vld]; omega)
              have a1 : tkP 1 L z = 1 := by simp only [tkP]; rw [if_neg (by omega), if_neg h2]
              have a2 : tkL 1 L z = (L - z) := by simp only [tkL]; rw [if_neg (by omega), if_neg h2]
              simp only [a1, a2] at X
              replace X := Lib.hid X
              clear a1 a2 hT
              have ev : evt 1 1 = 0 := rfl
              go_wp2_with fail
              (with_reducible refine (X.out _).mono ?_)
              rintro e w3 ⟨rfl, hb⟩
              replace S := S.call hb
              clear c0 c1 e0 e1 e2 X hb
              have c0 := S.c 0 0 rfl rfl
              have c1 := S.c 0 1 rfl rfl
              have f0 := S.f 0 0 rfl rfl
              have f1 := S.f 0 1 rfl rfl
              replace S := S.set2 0 (.int .i64 1) (.int .i64 (L - z)) rfl (by omega) (by simp) [_] rfl
              go_wp2_with fail
              all_goals
                go_roundw
                case rel => exact ⟨k + 1, false, false, (L - z), 1, by omega, by go_num, rfl, by first | rfl | (simp; omega), rfl, .inr (.inl ⟨by omega, by omega, rfl, rfl, rfl⟩), S⟩
                case measure => simp [intOf]; omega
        · by_cases h1 : z ≤ 0
          · have X := fun W => tick_ok 2 L z W (by simp [vld]; omega)
            have a1 : tkP 2 L z = 2 := by simp [tkP, h1]
            have a2 : tkL 2 L z = L := by simp [tkL, h1]
            simp only [a1, a2] at X
            replace X := Lib.hid X
            clear a1 a2 hT
            have ev : evt 2 2 = 0 := rfl
            go_wp2_with fail
            (with_reducible refine (X.out _).mono ?_)
            rintro e w3 ⟨rfl, hb⟩
            replace S := S.call hb
            clear c0 c1 e0 e1 e2 X hb
            have c0 := S.c 0 0 rfl rfl
            have c1 := S.c 0 1 rfl rfl
            have f0 := S.f 0 0 rfl rfl
            have f1 := S.f 0 1 rfl rfl
            replace S := S.set2 0 (.int .i64 2) (.int .i64 L) rfl (by omega) (by simp) [_] rfl
            go_wp2_with fail
            all_goals
              go_roundw
              case rel => exact ⟨k + 1, true, true, L, 2, by omega, by go_num, rfl, by first | rfl | (simp; omega), rfl, .inr (.inr ⟨by omega, by omega, rfl, rfl, rfl⟩), S⟩
              case measure => simp [intOf]; omega
          · by_cases h2 : L ≤ z
            · have X := fun W => tick_ok 2 L z W (by simp [vld]; omega)
              have a1 : tkP 2 L z = 0 := by simp only [tkP]; rw [if_neg (by omega), if_pos h2]
              have a2 : tkL 2 L z = 0 := by simp only [tkL]; rw [if_neg (by omega), if_pos h2]
              simp only [a1, a2] at X
              replace X := Lib.hid X
              clear a1 a2 hT
              have ev : evt 2 0 = 2 := rfl
              go_wp2_with fail
              (with_reducible refine (X.out _).mono ?_)
              rintro e w3 ⟨rfl, hb⟩
              replace S := S.call hb
              clear c0 c1 e0 e1 e2 X hb
              have c0 := S.c 0 0 rfl rfl
              have c1 := S.c 0 1 rfl rfl
              have f0 := S.f 0 0 rfl rfl
              have f1 := S.f 0 1 rfl rfl
              replace S := S.set2 0 (.int .i64 0) (.int .i64 0) rfl (by omega) (by simp) [_] rfl
              go_wp2_with fail
              all_goals
                go_roundw
                case rel => exact ⟨k + 1, false, true, 0, 0, by omega, by go_num, rfl, by first | rfl | (simp; omega), rfl, .inl ⟨rfl, rfl, rfl⟩, S⟩
                case measure => simp [intOf]; omega
            · have X := fun W => tick_ok 2 L z W (by simp [vld]; omega)
              have a1 : tkP 2 L z = 2 := by simp only [tkP]; rw [if_neg (by omega), if_neg h2]
              have a2 : tkL 2 L z = (L - z) := by simp only [tkL]; rw [if_neg (by omega), if_neg h2]
              simp only [a1, a2] at X
              replace X := Lib.hid X
              clear a1 a2 hT
              have ev : evt 2 2 = 0 := rfl
              go_wp2_with fail
              (with_reducible refine (X.out _).mono ?_)
              rintro e w3 ⟨rfl, hb⟩
              replace S := S.call hb
              clear c0 c1 e0 e1 e2 X hb
              have c0 := S.c 0 0 rfl rfl
              have c1 := S.c 0 1 rfl rfl
              have f0 := S.f 0 0 rfl rfl
              have f1 := S.f 0 1 rfl rfl
              replace S := S.set2 0 (.int .i64 2) (.int .i64 (L - z)) rfl (by omega) (by simp) [_] rfl
              go_wp2_with fail
              all_goals
                go_roundw
                case rel => exact ⟨k + 1, true, true, (L - z), 2, by omega, by go_num, rfl, by first | rfl | (simp; omega), rfl, .inr (.inr ⟨by omega, by omega, rfl, rfl, rfl⟩), S⟩
                case measure => simp [intOf]; omega
      · by_cases hr : z < 1 ∨ 65536 < z
        · go_wp2_with fail
          all_goals first | (exfalso; omega) | skip
          all_goals
            go_roundw
            case rel => exact ⟨k + 1, up, seen, L, P, by omega, by go_num, rfl, rfl, rfl, hT, S⟩
            case measure => simp [intOf]; omega
        · have z1 : ¬ z < 1 := by omega
          have z2 : ¬ 65536 < z := by omega
          clear hr
          have hne : b ≠ w1.heap.size := by
            have := (S.rd 0 _ rfl)
            obtain ⟨ad, e, hlt'⟩ := this.block (by rw [flat3_len]; omega)
            injection e with e
            subst e
            simp at hlt'
            omega
          rcases hT.out with ⟨rfl, rfl, rfl⟩ | ⟨t0, t1, rfl, rfl, rfl⟩ | ⟨t0, t1, rfl, rfl, rfl⟩
          · cases sq
            · have X := Lib.hid (fun W => receive_ok 0 0 z false W (rfl) (by omega) (by omega))
              clear hT
              have ev : evt 0 1 = 0 := rfl
              go_wp2_with fail
              go_region_with (go_at_call 11; refine (X.out _).mono ?_; rintro e w3 ⟨rfl, hb⟩; replace S := S.drew.call hb; have d0 := S.c 0 0 rfl rfl; have d1 := S.c 0 1 rfl rfl; have f0 := S.f 0 0 rfl rfl; have f1 := S.f 0 1 rfl rfl; have r1 := cell_later hb (show wr.drew.cell? _ = _ from e1); clear c0 c1 e0 e1 e2)
              all_goals
                clear X
                replace S := S.set2 0 (.int .i64 1) (.int .i64 z) rfl (by omega) (by simp) [_] rfl
                go_wp2_with fail
                have n1 : ¬ b = w1.heap.size := hne
                have n2 : ¬ w1.heap.size = b := fun e => hne e.symm
                go_quiet (fail)
                replace S := S.drewN nq
                go_wp2_with fail
                all_goals
                  go_roundw
                  case rel => exact ⟨k + 1, false, false, z, 1, by omega, by go_num, rfl, by first | rfl | (simp; omega), rfl, .inr (.inl ⟨by omega, by omega, rfl, rfl, rfl⟩), S⟩
                  case measure => simp [intOf]; omega
            · have X := Lib.hid (fun W => receive_ok 0 0 z true W (rfl) (by omega) (by omega))
              clear hT
              have ev : evt 0 2 = 1 := rfl
              go_wp2_with fail
              go_region_with (go_at_call 11; refine (X.out _).mono ?_; rintro e w3 ⟨rfl, hb⟩; replace S := S.drew.call hb; have d0 := S.c 0 0 rfl rfl; have d1 := S.c 0 1 rfl rfl; have f0 := S.f 0 0 rfl rfl; have f1 := S.f 0 1 rfl rfl; have r1 := cell_later hb (show wr.drew.cell? _ = _ from e1); clear c0 c1 e0 e1 e2)
              all_goals
                clear X
                replace S := S.set2 0 (.int .i64 2) (.int .i64 z) rfl (by omega) (by simp) [_] rfl
                go_wp2_with fail
                have n1 : ¬ b = w1.heap.size := hne
                have n2 : ¬ w1.heap.size = b := fun e => hne e.symm
                go_quiet (fail)
                replace S := S.drewN nq
                go_wp2_with fail
                all_goals
                  go_roundw
                  case rel => exact ⟨k + 1, true, true, z, 2, by omega, by go_num, rfl, by first | rfl | (simp; omega), rfl, .inr (.inr ⟨by omega, by omega, rfl, rfl, rfl⟩), S⟩
                  case measure => simp [intOf]; omega
          · cases sq
            · have X := Lib.hid (fun W => receive_ok 1 L z false W (by simp [vld]; omega) (by omega) (by omega))
              clear hT
              have ev : evt 1 1 = 0 := rfl
              go_wp2_with fail
              go_region_with (go_at_call 11; refine (X.out _).mono ?_; rintro e w3 ⟨rfl, hb⟩; replace S := S.drew.call hb; have d0 := S.c 0 0 rfl rfl; have d1 := S.c 0 1 rfl rfl; have f0 := S.f 0 0 rfl rfl; have f1 := S.f 0 1 rfl rfl; have r1 := cell_later hb (show wr.drew.cell? _ = _ from e1); clear c0 c1 e0 e1 e2)
              all_goals
                clear X
                replace S := S.set2 0 (.int .i64 1) (.int .i64 z) rfl (by omega) (by simp) [_] rfl
                go_wp2_with fail
                have n1 : ¬ b = w1.heap.size := hne
                have n2 : ¬ w1.heap.size = b := fun e => hne e.symm
                go_quiet (fail)
                replace S := S.drewN nq
                go_wp2_with fail
                all_goals
                  go_roundw
                  case rel => exact ⟨k + 1, false, false, z, 1, by omega, by go_num, rfl, by first | rfl | (simp; omega), rfl, .inr (.inl ⟨by omega, by omega, rfl, rfl, rfl⟩), S⟩
                  case measure => simp [intOf]; omega
            · have X := Lib.hid (fun W => receive_ok 1 L z true W (by simp [vld]; omega) (by omega) (by omega))
              clear hT
              have ev : evt 1 2 = 1 := rfl
              go_wp2_with fail
              go_region_with (go_at_call 11; refine (X.out _).mono ?_; rintro e w3 ⟨rfl, hb⟩; replace S := S.drew.call hb; have d0 := S.c 0 0 rfl rfl; have d1 := S.c 0 1 rfl rfl; have f0 := S.f 0 0 rfl rfl; have f1 := S.f 0 1 rfl rfl; have r1 := cell_later hb (show wr.drew.cell? _ = _ from e1); clear c0 c1 e0 e1 e2)
              all_goals
                clear X
                replace S := S.set2 0 (.int .i64 2) (.int .i64 z) rfl (by omega) (by simp) [_] rfl
                go_wp2_with fail
                have n1 : ¬ b = w1.heap.size := hne
                have n2 : ¬ w1.heap.size = b := fun e => hne e.symm
                go_quiet (fail)
                replace S := S.drewN nq
                go_wp2_with fail
                all_goals
                  go_roundw
                  case rel => exact ⟨k + 1, true, true, z, 2, by omega, by go_num, rfl, by first | rfl | (simp; omega), rfl, .inr (.inr ⟨by omega, by omega, rfl, rfl, rfl⟩), S⟩
                  case measure => simp [intOf]; omega
          · cases sq
            · have X := Lib.hid (fun W => receive_ok 2 L z false W (by simp [vld]; omega) (by omega) (by omega))
              clear hT
              have ev : evt 2 1 = 2 := rfl
              go_wp2_with fail
              go_region_with (go_at_call 11; refine (X.out _).mono ?_; rintro e w3 ⟨rfl, hb⟩; replace S := S.drew.call hb; have d0 := S.c 0 0 rfl rfl; have d1 := S.c 0 1 rfl rfl; have f0 := S.f 0 0 rfl rfl; have f1 := S.f 0 1 rfl rfl; have r1 := cell_later hb (show wr.drew.cell? _ = _ from e1); clear c0 c1 e0 e1 e2)
              all_goals
                clear X
                replace S := S.set2 0 (.int .i64 1) (.int .i64 z) rfl (by omega) (by simp) [_] rfl
                go_wp2_with fail
                have n1 : ¬ b = w1.heap.size := hne
                have n2 : ¬ w1.heap.size = b := fun e => hne e.symm
                go_quiet (fail)
                replace S := S.drewN nq
                go_wp2_with fail
                all_goals
                  go_roundw
                  case rel => exact ⟨k + 1, false, false, z, 1, by omega, by go_num, rfl, by first | rfl | (simp; omega), rfl, .inr (.inl ⟨by omega, by omega, rfl, rfl, rfl⟩), S⟩
                  case measure => simp [intOf]; omega
            · have X := Lib.hid (fun W => receive_ok 2 L z true W (by simp [vld]; omega) (by omega) (by omega))
              clear hT
              have ev : evt 2 2 = 0 := rfl
              go_wp2_with fail
              go_region_with (go_at_call 11; refine (X.out _).mono ?_; rintro e w3 ⟨rfl, hb⟩; replace S := S.drew.call hb; have d0 := S.c 0 0 rfl rfl; have d1 := S.c 0 1 rfl rfl; have f0 := S.f 0 0 rfl rfl; have f1 := S.f 0 1 rfl rfl; have r1 := cell_later hb (show wr.drew.cell? _ = _ from e1); clear c0 c1 e0 e1 e2)
              all_goals
                clear X
                replace S := S.set2 0 (.int .i64 2) (.int .i64 z) rfl (by omega) (by simp) [_] rfl
                go_wp2_with fail
                have n1 : ¬ b = w1.heap.size := hne
                have n2 : ¬ w1.heap.size = b := fun e => hne e.symm
                go_quiet (fail)
                replace S := S.drewN nq
                go_wp2_with fail
                all_goals
                  go_roundw
                  case rel => exact ⟨k + 1, true, true, z, 2, by omega, by go_num, rfl, by first | rfl | (simp; omega), rfl, .inr (.inr ⟨by omega, by omega, rfl, rfl, rfl⟩), S⟩
                  case measure => simp [intOf]; omega
    · go_wp2_with fail
      go_ret
      exact ⟨rfl, S.b⟩

end Go.Proofs.Ytpjbblmhpkapnaa
