/-
  The walk of the statement on a direction that loses all hellos.
-/
import Derived.Test.YtpjbblmhpkapnaaHelTwo
namespace Go.Proofs.Ytpjbblmhpkapnaa
set_option linter.unusedVariables false
open Go.RowKit Go.Sort

theorem tk1_le {s : Int × Int} (h : vld s.1 s.2 = true) : (tk1 s).2 ≤ max 0 (s.2 - 1) ∧ (tk1 s).2 ≤ s.2 := by
  have hv := vld_le h
  unfold tk1 tkL
  simp only
  by_cases h1 : (1 : Int) ≤ 0 ∨ s.1 = 0
  · rw [if_pos h1]; omega
  · rw [if_neg h1]
    by_cases h2 : s.2 ≤ 1
    · rw [if_pos h2]; omega
    · rw [if_neg h2]; omega
theorem ex1_le {s : Int × Int} (t : Int × Int) (h : Int) (l : Bool) (hs : vld s.1 s.2 = true) (hl : s.2 ≤ h) : (ex1 s t h l).2 ≤ h := by
  unfold ex1
  cases l
  · exact Int.le_refl _
  · exact Int.le_trans (tk1_le hs).2 hl

/-- The end that hears nothing: t; the other one: s. -/
def Deaf (h : Int) (i : Nat) (s t : Int × Int) : Prop := t.2 ≤ max 0 (h - i) ∧ (h + 1 ≤ i → s.1 = 1)
theorem deaf_step {h : Int} {i : Nat} {s t : Int × Int} (hd : Deaf h i s t) (hs : vld s.1 s.2 = true) (ht : vld t.1 t.2 = true) : Deaf h (i + 1) (ex1 s t h false) (ex1 t s h true) := by
  obtain ⟨h1, h2⟩ := hd
  have hv := vld_le ht
  have hk := (tk1_le ht).1
  refine ⟨?_, fun hi => ?_⟩
  · show (tk1 t).2 ≤ _
    omega
  · show (if sn t.1 t.2 then (2 : Int) else 1) = 1
    have e1 : t.2 = 0 := by omega
    have e2 : t.1 = 0 := by omega
    have : sn t.1 t.2 = false := by simp [sn, e2]
    rw [this]; rfl
theorem deaf_end {h : Int} {i : Nat} {s t : Int × Int} (hd : Deaf h i s t) (ht : vld t.1 t.2 = true) (hi : h + 1 ≤ i) : t.1 = 0 ∧ s.1 = 1 := by
  obtain ⟨h1, h2⟩ := hd
  have hv := vld_le ht
  exact ⟨by omega, h2 hi⟩

set_option maxHeartbeats 1600000 in
theorem oneway_law (w : World) (A : Option Addr) (n c : Nat) (ls : List (Bool × Bool)) (hr : Rd w A (flat2 ls)) (hn : ls.length = n) (hm : n ≤ maxLen) (z : Int) (hz : (Lit.int .u8 z).wf = true) (forth : Bool) :
    Calls Try.prog 9 #[.slice A n c, .int .u8 z, .bool forth] w fun e w' => e = .returned (.bool true) ∧ RowKit.Below w.heap.size w w' := by
  subst hn
  unfold maxLen at hm
  have ⟨hz0, hz1⟩ := bounds_u8 hz
  clear hz
  have S := (St.start w).read hr
  clear hr
  go_enter Try.func9, Try.ntmps9
  go_wp2_with fail
  (with_reducible refine (awake_any _).mono ?_)
  rintro e w1 ⟨rfl, hb⟩
  replace S := S.call hb
  clear hb
  by_cases hl : 40 < ls.length
  · have hl' : (40 : Int) < ls.length := by omega
    go_wp2_with fail
    go_ret
    exact ⟨rfl, S.b⟩
  have hl' : ¬ (40 : Int) < ls.length := by omega
  obtain ⟨h, hh⟩ : ∃ h : Int, 2 + z % 19 = h := ⟨_, rfl⟩
  have h1 : 2 ≤ h := by omega
  have h2 : h ≤ 20 := by omega
  have hb1 := S.b.size
  replace S := (S.new' #[.int .i64 0, .int .i64 0] 25 w1.heap.size [.int .i64 0, .int .i64 0] rfl rfl).new' #[.int .i64 0, .int .i64 0] 25 (w1.heap.size + 1) [.int .i64 0, .int .i64 0] (by simp) rfl
  go_wp2_with fail
  clear hh
  generalize (w1.alloc (.cells #[.int .i64 0, .int .i64 0] 25)).alloc (.cells #[.int .i64 0, .int .i64 0] 25) = w2 at *
  go_loopw [10] (fun v8 wr => ∃ (k : Nat) (s t : Int × Int), k ≤ ls.length ∧ v8 = .int .i64 k ∧ Hid (vld s.1 s.2 = true) ∧ Hid (vld t.1 t.2 = true) ∧ Hid (s.2 ≤ h) ∧ Hid (t.2 ≤ h) ∧
    St w wr [(w1.heap.size + 1, [.int .i64 t.1, .int .i64 t.2]), (w1.heap.size, [.int .i64 s.1, .int .i64 s.2])] [(A, flat2 ls)]) (fun v8 _ => ls.length - (intOf v8).toNat)
  case atStart => exact ⟨0, (0, 0), (0, 0), Nat.zero_le _, rfl, rfl, rfl, by show (0 : Int) ≤ h; omega, by show (0 : Int) ≤ h; omega, S⟩
  case round =>
    clear S
    obtain ⟨k, s, t, hk, rfl, hs, ht, hsl, htl, S⟩ := hrel
    by_cases hlt : k < ls.length
    · obtain ⟨b, off, rfl, e0, e1⟩ := rd_flat2 (S.r 0 rfl) hlt
      have c0 := S.c 1 0 rfl rfl
      have c1 := S.c 1 1 rfl rfl
      have c2 := S.c 0 0 rfl rfl
      have c3 := S.c 0 1 rfl rfl
      have X := Lib.hid (fun W => exchange_any s t h ls[k].1 ls[k].2 W hs.out ht.out (by omega) (by omega))
      have ha := Lib.hid (ex1_vld s t h ls[k].2 hs.out (by omega) (by omega))
      have hb := Lib.hid (ex1_vld t s h ls[k].1 ht.out (by omega) (by omega))
      have hal := Lib.hid (ex1_le t h ls[k].2 hs.out hsl.out)
      have hbl := Lib.hid (ex1_le s h ls[k].1 ht.out htl.out)
      generalize ex1 s t h ls[k].2 = s' at *
      generalize ex1 t s h ls[k].1 = t' at *
      have i0 : (0 : Int) ≤ (k : Int) := by omega
      have i1 : (k : Int) < (ls.length : Int) := by omega
      go_wp2_with fail
      go_region_with (go_at_call 20; refine (X.out _).mono ?_; rintro e w3 ⟨rfl, hb3⟩; replace S := S.drew.call hb3; have p0 := S.c 1 0 rfl rfl; have p1 := S.c 1 1 rfl rfl; have p2 := S.c 0 0 rfl rfl; have p3 := S.c 0 1 rfl rfl; have q0 := S.f 1 0 rfl rfl; have q1 := S.f 1 1 rfl rfl; have q2 := S.f 0 0 rfl rfl; have q3 := S.f 0 1 rfl rfl; clear c0 c1 c2 c3 e0 e1)
      all_goals
        replace S := (S.set2 1 (.int .i64 s'.1) (.int .i64 s'.2) rfl (by omega) (by simp) [_, _] rfl).set2 0 (.int .i64 t'.1) (.int .i64 t'.2) rfl (by omega) (by simp) [_, _] rfl
        go_wp2_with fail
        go_roundw
        case rel => exact ⟨k + 1, s', t', by omega, by go_num, ha, hb, hal, hbl, S⟩
        case measure => simp [intOf]; omega
    · go_wp2_with fail
      go_loopw [11] (fun v8 wr => ∃ (i : Nat) (s t : Int × Int), (i : Int) ≤ 2 * h ∧ v8 = .int .i64 i ∧ Hid (vld s.1 s.2 = true) ∧ Hid (vld t.1 t.2 = true) ∧
        Hid (if forth then Deaf h i s t else Deaf h i t s) ∧
        St w wr [(w1.heap.size + 1, [.int .i64 t.1, .int .i64 t.2]), (w1.heap.size, [.int .i64 s.1, .int .i64 s.2])] [(A, flat2 ls)]) (fun v8 _ => 100 - (intOf v8).toNat)
      case atStart =>
        refine ⟨0, s, t, by omega, rfl, hs, ht, ?_, S⟩
        have e1 := hsl.out
        have e2 := htl.out
        cases forth
        · exact ⟨by show s.2 ≤ max 0 (h - ((0 : Nat) : Int)); omega, by omega⟩
        · exact ⟨by show t.2 ≤ max 0 (h - ((0 : Nat) : Int)); omega, by omega⟩
      case round =>
        clear S hs ht hsl htl hk hlt
        obtain ⟨i, s, t, hi, rfl, hs, ht, hd, S⟩ := hrel
        have c0 := S.c 1 0 rfl rfl
        have c1 := S.c 1 1 rfl rfl
        have c2 := S.c 0 0 rfl rfl
        have c3 := S.c 0 1 rfl rfl
        by_cases hlt : (i : Int) < 2 * h
        · have X := Lib.hid (fun W => exchange_any s t h forth (!forth) W hs.out ht.out (by omega) (by omega))
          have ha := Lib.hid (ex1_vld s t h (!forth) hs.out (by omega) (by omega))
          have hb := Lib.hid (ex1_vld t s h forth ht.out (by omega) (by omega))
          have hd' : Hid (if forth then Deaf h (i + 1) (ex1 s t h (!forth)) (ex1 t s h forth) else Deaf h (i + 1) (ex1 t s h forth) (ex1 s t h (!forth))) := by
            have h0 := hd.out
            cases forth
            · exact deaf_step h0 ht.out hs.out
            · exact deaf_step h0 hs.out ht.out
          generalize ex1 s t h (!forth) = s' at *
          generalize ex1 t s h forth = t' at *
          go_wp2_with fail
          (with_reducible refine (X.out _).mono ?_)
          rintro e w3 ⟨rfl, hb3⟩
          replace S := S.call hb3
          clear c0 c1 c2 c3 X hb3
          have c0 := S.c 1 0 rfl rfl
          have c1 := S.c 1 1 rfl rfl
          have c2 := S.c 0 0 rfl rfl
          have c3 := S.c 0 1 rfl rfl
          have f0 := S.f 1 0 rfl rfl
          have f1 := S.f 1 1 rfl rfl
          have f2 := S.f 0 0 rfl rfl
          have f3 := S.f 0 1 rfl rfl
          replace S := (S.set2 1 (.int .i64 s'.1) (.int .i64 s'.2) rfl (by omega) (by simp) [_, _] rfl).set2 0 (.int .i64 t'.1) (.int .i64 t'.2) rfl (by omega) (by simp) [_, _] rfl
          go_wp2_with fail
          go_roundw
          case rel => exact ⟨i + 1, s', t', by omega, by go_num, ha, hb, hd', S⟩
          case measure => simp [intOf]; omega
        · cases forth
          · obtain ⟨e1, e2⟩ := deaf_end (show Deaf h i t s from hd.out) hs.out (by omega)
            rw [e1] at c0
            rw [e2] at c2
            clear e1 e2
            go_wp2_with fail
            go_ret
            exact ⟨rfl, S.b⟩
          · obtain ⟨e1, e2⟩ := deaf_end (show Deaf h i s t from hd.out) ht.out (by omega)
            rw [e2] at c0
            rw [e1] at c2
            clear e1 e2
            go_wp2_with fail
            go_ret
            exact ⟨rfl, S.b⟩

end Go.Proofs.Ytpjbblmhpkapnaa
