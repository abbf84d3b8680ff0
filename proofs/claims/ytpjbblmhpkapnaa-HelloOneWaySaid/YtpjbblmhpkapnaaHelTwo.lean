/-
  The walks of the statements on two neighbours.
-/
import Derived.Test.YtpjbblmhpkapnaaHelEx
import Derived.Deep.RegionWith
namespace Go.Proofs.Ytpjbblmhpkapnaa
set_option linter.unusedVariables false
open Go.RowKit Go.Sort

theorem ex1_vld (s t : Int × Int) (h : Int) (l : Bool) (hs : vld s.1 s.2 = true) (h1 : 1 ≤ h) (h2 : h ≤ 65536) : vld (ex1 s t h l).1 (ex1 s t h l).2 = true := by
  unfold ex1
  cases l
  · exact rc_vld _ h h1 h2
  · exact tk_vld 1 hs

theorem sn_rc (x : Bool) (h : Int) (h1 : 1 ≤ h) (h2 : h ≤ 65536) : sn (rc x h).1 (rc x h).2 = true := by
  cases x <;> simp [sn, rc, vld] <;> omega

set_option maxHeartbeats 1600000 in
theorem handshake_law (w : World) (A : Option Addr) (n c : Nat) (ls : List (Bool × Bool)) (hr : Rd w A (flat2 ls)) (hn : ls.length = n) (hm : n ≤ maxLen) (z : Int) (hz : (Lit.int .u8 z).wf = true) :
    Calls Try.prog 8 #[.slice A n c, .int .u8 z] w fun e w' => e = .returned (.bool true) ∧ RowKit.Below w.heap.size w w' := by
  subst hn
  unfold maxLen at hm
  have ⟨hz0, hz1⟩ := bounds_u8 hz
  clear hz
  have S := (St.start w).read hr
  clear hr
  go_enter Try.func8, Try.ntmps8
  go_wp2_with fail
  (with_reducible refine (awake_any _).mono ?_)
  rintro e w1 ⟨rfl, hb⟩
  replace S := S.call hb
  clear hb
  by_cases hl : 40 < ls.length
  · have hl' : (40 : Int) < ls.length := by omega
    go_wp2_with fail
    go_ret
    exact ⟨rfl, S.b⟩
  have hl' : ¬ (40 : Int) < ls.length := by omega
  obtain ⟨h, hh⟩ : ∃ h : Int, 2 + z % 19 = h := ⟨_, rfl⟩
  have h1 : 2 ≤ h := by omega
  have h2 : h ≤ 20 := by omega
  have hb1 := S.b.size
  replace S := (S.new' #[.int .i64 0, .int .i64 0] 25 w1.heap.size [.int .i64 0, .int .i64 0] rfl rfl).new' #[.int .i64 0, .int .i64 0] 25 (w1.heap.size + 1) [.int .i64 0, .int .i64 0] (by simp) rfl
  go_wp2_with fail
  clear hh
  generalize (w1.alloc (.cells #[.int .i64 0, .int .i64 0] 25)).alloc (.cells #[.int .i64 0, .int .i64 0] 25) = w2 at *
  go_loopw [8] (fun v8 wr => ∃ (k : Nat) (s t : Int × Int), k ≤ ls.length ∧ v8 = .int .i64 k ∧ Hid (vld s.1 s.2 = true) ∧ Hid (vld t.1 t.2 = true) ∧
    St w wr [(w1.heap.size + 1, [.int .i64 t.1, .int .i64 t.2]), (w1.heap.size, [.int .i64 s.1, .int .i64 s.2])] [(A, flat2 ls)]) (fun v8 _ => ls.length - (intOf v8).toNat)
  case atStart => exact ⟨0, (0, 0), (0, 0), Nat.zero_le _, rfl, rfl, rfl, S⟩
  case round =>
    clear S
    obtain ⟨k, s, t, hk, rfl, hs, ht, S⟩ := hrel
    by_cases hlt : k < ls.length
    · obtain ⟨b, off, rfl, e0, e1⟩ := rd_flat2 (S.r 0 rfl) hlt
      have c0 := S.c 1 0 rfl rfl
      have c1 := S.c 1 1 rfl rfl
      have c2 := S.c 0 0 rfl rfl
      have c3 := S.c 0 1 rfl rfl
      have X := Lib.hid (fun W => exchange_any s t h ls[k].1 ls[k].2 W hs.out ht.out (by omega) (by omega))
      have ha := Lib.hid (ex1_vld s t h ls[k].2 hs.out (by omega) (by omega))
      have hb := Lib.hid (ex1_vld t s h ls[k].1 ht.out (by omega) (by omega))
      generalize ex1 s t h ls[k].2 = s' at *
      generalize ex1 t s h ls[k].1 = t' at *
      have i0 : (0 : Int) ≤ (k : Int) := by omega
      have i1 : (k : Int) < (ls.length : Int) := by omega
      go_wp2_with fail
      go_region_with (go_at_call 20; refine (X.out _).mono ?_; rintro e w3 ⟨rfl, hb3⟩; replace S := S.drew.call hb3; have p0 := S.c 1 0 rfl rfl; have p1 := S.c 1 1 rfl rfl; have p2 := S.c 0 0 rfl rfl; have p3 := S.c 0 1 rfl rfl; have q0 := S.f 1 0 rfl rfl; have q1 := S.f 1 1 rfl rfl; have q2 := S.f 0 0 rfl rfl; have q3 := S.f 0 1 rfl rfl; clear c0 c1 c2 c3 e0 e1)
      all_goals
        replace S := (S.set2 1 (.int .i64 s'.1) (.int .i64 s'.2) rfl (by omega) (by simp) [_, _] rfl).set2 0 (.int .i64 t'.1) (.int .i64 t'.2) rfl (by omega) (by simp) [_, _] rfl
        go_wp2_with fail
        go_roundw
        case rel => exact ⟨k + 1, s', t', by omega, by go_num, ha, hb, S⟩
        case measure => simp [intOf]; omega
    · have X1 := Lib.hid (fun W => exchange_any s t h false false W hs.out ht.out (by omega) (by omega))
      have ha := Lib.hid (ex1_vld s t h false hs.out (by omega) (by omega))
      have hb := Lib.hid (ex1_vld t s h false ht.out (by omega) (by omega))
      have hs1 : Hid (ex1 s t h false = rc (sn t.1 t.2) h) := rfl
      have ht1 : Hid (ex1 t s h false = rc (sn s.1 s.2) h) := rfl
      generalize ex1 s t h false = s1 at *
      generalize ex1 t s h false = t1 at *
      have X2 := fun W => exchange_any s1 t1 h false false W ha.out hb.out (by omega) (by omega)
      have hs2 : ex1 s1 t1 h false = (2, h) := by
        have : sn t1.1 t1.2 = true := by rw [ht1.out]; exact sn_rc _ h (by omega) (by omega)
        show rc (sn t1.1 t1.2) h = _
        rw [this]; rfl
      have ht2 : ex1 t1 s1 h false = (2, h) := by
        have : sn s1.1 s1.2 = true := by rw [hs1.out]; exact sn_rc _ h (by omega) (by omega)
        show rc (sn s1.1 s1.2) h = _
        rw [this]; rfl
      rw [hs2, ht2] at X2
      have X3 := Lib.hid X2
      clear hs1 ht1 hs2 ht2 ha hb X2
      have c0 := S.c 1 0 rfl rfl
      have c1 := S.c 1 1 rfl rfl
      have c2 := S.c 0 0 rfl rfl
      have c3 := S.c 0 1 rfl rfl
      go_wp2_with fail
      (with_reducible refine (X1.out _).mono ?_)
      rintro e w3 ⟨rfl, hb⟩
      replace S := S.call hb
      clear c0 c1 c2 c3 X1 hb
      have c0 := S.c 1 0 rfl rfl
      have c1 := S.c 1 1 rfl rfl
      have c2 := S.c 0 0 rfl rfl
      have c3 := S.c 0 1 rfl rfl
      have f0 := S.f 1 0 rfl rfl
      have f1 := S.f 1 1 rfl rfl
      have f2 := S.f 0 0 rfl rfl
      have f3 := S.f 0 1 rfl rfl
      replace S := (S.set2 1 (.int .i64 s1.1) (.int .i64 s1.2) rfl (by omega) (by simp) [_, _] rfl).set2 0 (.int .i64 t1.1) (.int .i64 t1.2) rfl (by omega) (by simp) [_, _] rfl
      go_wp2_with fail
      generalize (((w3.setCell ⟨w1.heap.size, 0, none⟩ (.int .i64 s1.1)).setCell ⟨w1.heap.size, 1, none⟩ (.int .i64 s1.2)).setCell ⟨w1.heap.size + 1, 0, none⟩ (.int .i64 t1.1)).setCell ⟨w1.heap.size + 1, 1, none⟩ (.int .i64 t1.2) = w4 at *
      (with_reducible refine (X3.out _).mono ?_)
      rintro e w5 ⟨rfl, hb⟩
      replace S := S.call hb
      clear c0 c1 c2 c3 f0 f1 f2 f3 X3 hb
      have c0 := S.c 1 0 rfl rfl
      have c1 := S.c 1 1 rfl rfl
      have c2 := S.c 0 0 rfl rfl
      have c3 := S.c 0 1 rfl rfl
      have f0 := S.f 1 0 rfl rfl
      have f1 := S.f 1 1 rfl rfl
      have f2 := S.f 0 0 rfl rfl
      have f3 := S.f 0 1 rfl rfl
      replace S := (S.set2 1 (.int .i64 2) (.int .i64 h) rfl (by omega) (by simp) [_, _] rfl).set2 0 (.int .i64 2) (.int .i64 h) rfl (by omega) (by simp) [_, _] rfl
      go_wp2_with fail
      go_ret
      exact ⟨by simp, S.b⟩

end Go.Proofs.Ytpjbblmhpkapnaa
