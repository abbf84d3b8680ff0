/-
  The walk of exchange, and of the statements on two neighbours.
-/
import Derived.Test.YtpjbblmhpkapnaaHelFlat
import Derived.OpenShut
import Derived.Lib.QuietBelow
import Derived.Deep.RegionHeld3
import Derived.RegionTactic
namespace Go.Proofs.Ytpjbblmhpkapnaa
set_option linter.unusedVariables false
open Go.RowKit Go.Sort

/-- A tick of a state; a step of exchange, for one end. -/
def tk1 (s : Int × Int) : Int × Int := (tkP s.1 s.2 1, tkL s.1 s.2 1)
def rc (x : Bool) (h : Int) : Int × Int := (if x then 2 else 1, h)
def ex1 (s t : Int × Int) (h : Int) (lost : Bool) : Int × Int := if lost then tk1 s else rc (sn t.1 t.2) h

theorem rc_vld (x : Bool) (h : Int) (h1 : 1 ≤ h) (h2 : h ≤ 65536) : vld (rc x h).1 (rc x h).2 = true := by
  cases x <;> simp [rc, vld] <;> omega

theorem tick1 (s : Int × Int) (W : World) (hs : vld s.1 s.2 = true) : Calls Try.prog 15 #[.agg #[.int .i64 s.1, .int .i64 s.2], .int .i64 1] W fun e w' =>
      e = .returned (.tuple #[.agg #[.int .i64 (tk1 s).1, .int .i64 (tk1 s).2], .int .i64 (evt s.1 (tk1 s).1), .int .i64 0]) ∧ RowKit.Below W.heap.size W w' := tick_ok s.1 s.2 1 W hs
theorem recv1 (s : Int × Int) (x : Bool) (h : Int) (W : World) (hs : vld s.1 s.2 = true) (h1 : 1 ≤ h) (h2 : h ≤ 65536) : Calls Try.prog 11 #[.agg #[.int .i64 s.1, .int .i64 s.2], .bool x, .int .i64 h] W fun e w' =>
      e = .returned (.tuple #[.agg #[.int .i64 (rc x h).1, .int .i64 (rc x h).2], .int .i64 (evt s.1 (rc x h).1), .int .i64 0]) ∧ RowKit.Below W.heap.size W w' := receive_ok s.1 s.2 h x W hs h1 h2

set_option maxHeartbeats 3200000 in
theorem exchange_any (s t : Int × Int) (h : Int) (l0 l1 : Bool) (w : World) (hs : vld s.1 s.2 = true) (ht : vld t.1 t.2 = true) (h1 : 1 ≤ h) (h2 : h ≤ 65536) :
    Calls Try.prog 20 #[.agg #[.int .i64 s.1, .int .i64 s.2], .agg #[.int .i64 t.1, .int .i64 t.2], .int .i64 h, .agg #[.bool l0, .bool l1]] w fun e w' =>
      e = .returned (.tuple #[.agg #[.int .i64 (ex1 s t h l1).1, .int .i64 (ex1 s t h l1).2], .agg #[.int .i64 (ex1 t s h l0).1, .int .i64 (ex1 t s h l0).2]]) ∧ RowKit.Below w.heap.size w w' := by
  have Sa := Lib.hid (fun W => seen_any s.1 s.2 W)
  have Sb := Lib.hid (fun W => seen_any t.1 t.2 W)
  have Ta := Lib.hid (fun W => tick1 s W hs)
  have Tb := Lib.hid (fun W => tick1 t W ht)
  have Ra := Lib.hid (fun W => recv1 (tk1 s) (sn t.1 t.2) h W (tk_vld 1 hs) h1 h2)
  have Rb := Lib.hid (fun W => recv1 (tk1 t) (sn s.1 s.2) h W (tk_vld 1 ht) h1 h2)
  have ea : Hid (ex1 s t h l1 = if l1 then tk1 s else rc (sn t.1 t.2) h) := rfl
  have eb : Hid (ex1 t s h l0 = if l0 then tk1 t else rc (sn s.1 s.2) h) := rfl
  have S := (((((St.start w).new' #[.int .i64 s.1, .int .i64 s.2] 25 w.heap.size [.int .i64 s.1, .int .i64 s.2] rfl rfl).new' #[.int .i64 t.1, .int .i64 t.2] 25 (w.heap.size + 1) [.int .i64 t.1, .int .i64 t.2] (by simp) rfl).new' #[.bool l0, .bool l1] 48 (w.heap.size + 1 + 1) [.bool l0, .bool l1] (by simp) rfl).new'
    #[.int .i64 0, .int .i64 0] 25 (w.heap.size + 1 + 1 + 1) [.int .i64 0, .int .i64 0] (by simp) rfl).new' #[.int .i64 0, .int .i64 0] 25 (w.heap.size + 1 + 1 + 1 + 1) [.int .i64 0, .int .i64 0] (by simp) rfl
  clear hs ht h1 h2
  generalize ex1 s t h l1 = sx at *
  generalize ex1 t s h l0 = tx at *
  generalize tk1 s = s1 at *
  generalize tk1 t = t1 at *
  generalize rc (sn t.1 t.2) h = s2 at *
  generalize rc (sn s.1 s.2) h = t2 at *
  go_enter Try.func20, Try.ntmps20
  go_wp2_with fail
  generalize ((((w.alloc (.cells #[.int .i64 s.1, .int .i64 s.2] 25)).alloc (.cells #[.int .i64 t.1, .int .i64 t.2] 25)).alloc (.cells #[.bool l0, .bool l1] 48)).alloc (.cells #[.int .i64 0, .int .i64 0] 25)).alloc (.cells #[.int .i64 0, .int .i64 0] 25) = w0 at *
  have c0 := cell_regrown (S.c 4 0 rfl rfl)
  have c1 := cell_regrown (S.c 4 1 rfl rfl)
  have c2 := cell_regrown (S.c 3 0 rfl rfl)
  have c3 := cell_regrown (S.c 3 1 rfl rfl)
  refine wp_region_quiet_below (by kernel_rfl) (by kernel_rfl) ?_
  repeat (quiet_step (first
    | (go_at_call 19; with_reducible exact Calls.regrown_of (Sa.out _))
    | (go_at_call 19; with_reducible exact Calls.regrown_of (Sb.out _))))
  refine wpQuiet_nil ?_
  intro _ hw'
  obtain ⟨⟨dq, osq⟩, hw''⟩ := hw'
  subst hw''
  replace S := S.call (below_regrown w0 dq osq)
  generalize grow (redrawn w0 dq) osq = w1 at *
  clear c0 c1 c2 c3 Sa Sb
  have c0 := S.c 4 0 rfl rfl
  have c1 := S.c 4 1 rfl rfl
  go_wp2_with fail
  (with_reducible refine (Ta.out _).mono ?_)
  rintro e w2 ⟨rfl, hb⟩
  replace S := S.call hb
  clear c0 c1 Ta hb
  have c0 := S.c 4 0 rfl rfl
  have c1 := S.c 4 1 rfl rfl
  have f0 := S.f 4 0 rfl rfl
  have f1 := S.f 4 1 rfl rfl
  have c2 := S.c 3 0 rfl rfl
  have c3 := S.c 3 1 rfl rfl
  replace S := S.set2 4 (.int .i64 s1.1) (.int .i64 s1.2) rfl (Nat.le_refl _) (by simp; omega) [_, _, _, _, _] rfl
  go_wp2_with fail
  (with_reducible refine (Tb.out _).mono ?_)
  rintro e w3 ⟨rfl, hb⟩
  replace S := S.call hb
  clear c0 c1 f0 f1 c2 c3 Tb hb
  have c0 := S.c 3 0 rfl rfl
  have c1 := S.c 3 1 rfl rfl
  have f0 := S.f 3 0 rfl rfl
  have f1 := S.f 3 1 rfl rfl
  have d0 := S.c 2 0 rfl rfl
  have d1 := S.c 2 1 rfl rfl
  have g0 := S.c 4 0 rfl rfl
  have g1 := S.c 4 1 rfl rfl
  replace S := S.set2 3 (.int .i64 t1.1) (.int .i64 t1.2) rfl (by omega) (by simp; omega) [_, _, _, _, _] rfl
  cases l0
  · cases l1
    · go_wp2_with fail
      (with_reducible refine (Rb.out _).mono ?_)
      rintro e w4 ⟨rfl, hb⟩
      replace S := S.call hb
      clear c0 c1 f0 f1 d0 d1 g0 g1 Rb hb
      have c0 := S.c 3 0 rfl rfl
      have c1 := S.c 3 1 rfl rfl
      have f0 := S.f 3 0 rfl rfl
      have f1 := S.f 3 1 rfl rfl
      have d0 := S.c 2 0 rfl rfl
      have d1 := S.c 2 1 rfl rfl
      have g0 := S.c 4 0 rfl rfl
      have g1 := S.c 4 1 rfl rfl
      replace S := S.set2 3 (.int .i64 t2.1) (.int .i64 t2.2) rfl (by omega) (by simp; omega) [_, _, _, _, _] rfl
      go_wp2_with fail
      (with_reducible refine (Ra.out _).mono ?_)
      rintro e w5 ⟨rfl, hb⟩
      replace S := S.call hb
      clear c0 c1 f0 f1 d0 d1 g0 g1 Ra hb
      have c0 := S.c 4 0 rfl rfl
      have c1 := S.c 4 1 rfl rfl
      have f0 := S.f 4 0 rfl rfl
      have f1 := S.f 4 1 rfl rfl
      have c2 := S.c 3 0 rfl rfl
      have c3 := S.c 3 1 rfl rfl
      replace S := S.set2 4 (.int .i64 s2.1) (.int .i64 s2.2) rfl (Nat.le_refl _) (by simp; omega) [_, _, _, _, _] rfl
      go_wp2_with fail
      generalize (w5.setCell ⟨w.heap.size, 0, none⟩ (.int .i64 s2.1)).setCell ⟨w.heap.size, 1, none⟩ (.int .i64 s2.2) = w6 at *
      have p0 := S.c 4 0 rfl rfl
      have p1 := S.c 4 1 rfl rfl
      have p2 := S.c 3 0 rfl rfl
      have p3 := S.c 3 1 rfl rfl
      have q0 := S.c 1 0 rfl rfl
      have q1 := S.c 1 1 rfl rfl
      have q2 := S.c 0 0 rfl rfl
      have q3 := S.c 0 1 rfl rfl
      have r0 := S.f 1 0 rfl rfl
      have r1 := S.f 1 1 rfl rfl
      have r2 := S.f 0 0 rfl rfl
      have r3 := S.f 0 1 rfl rfl
      go_region
      obtain rfl : sx = s2 := ea.out
      obtain rfl : tx = t2 := eb.out
      replace S := (S.set2 1 (.int .i64 sx.1) (.int .i64 sx.2) rfl (by omega) (by simp; omega) [_, _, _, _, _] rfl).set2 0 (.int .i64 tx.1) (.int .i64 tx.2) rfl (by omega) (by simp; omega) [_, _, _, _, _] rfl
      have z0 := S.c 1 0 rfl rfl
      have z1 := S.c 1 1 rfl rfl
      have z2 := S.c 0 0 rfl rfl
      have z3 := S.c 0 1 rfl rfl
      go_wp2_with fail
      exact bodyPost_ret (v := .tuple #[.agg #[.int .i64 sx.1, .int .i64 sx.2], .agg #[.int .i64 tx.1, .int .i64 tx.2]]) (by simp [results, Try.results20, go_sem, z0, z1, z2, z3]) rfl ⟨rfl, S.b.drew⟩
    · go_wp2_with fail
      (with_reducible refine (Rb.out _).mono ?_)
      rintro e w4 ⟨rfl, hb⟩
      replace S := S.call hb
      clear c0 c1 f0 f1 d0 d1 g0 g1 Rb hb
      have c0 := S.c 3 0 rfl rfl
      have c1 := S.c 3 1 rfl rfl
      have f0 := S.f 3 0 rfl rfl
      have f1 := S.f 3 1 rfl rfl
      have d0 := S.c 2 0 rfl rfl
      have d1 := S.c 2 1 rfl rfl
      have g0 := S.c 4 0 rfl rfl
      have g1 := S.c 4 1 rfl rfl
      replace S := S.set2 3 (.int .i64 t2.1) (.int .i64 t2.2) rfl (by omega) (by simp; omega) [_, _, _, _, _] rfl
      go_wp2_with fail
      generalize (w4.setCell ⟨w.heap.size + 1, 0, none⟩ (.int .i64 t2.1)).setCell ⟨w.heap.size + 1, 1, none⟩ (.int .i64 t2.2) = w6 at *
      have p0 := S.c 4 0 rfl rfl
      have p1 := S.c 4 1 rfl rfl
      have p2 := S.c 3 0 rfl rfl
      have p3 := S.c 3 1 rfl rfl
      have q0 := S.c 1 0 rfl rfl
      have q1 := S.c 1 1 rfl rfl
      have q2 := S.c 0 0 rfl rfl
      have q3 := S.c 0 1 rfl rfl
      have r0 := S.f 1 0 rfl rfl
      have r1 := S.f 1 1 rfl rfl
      have r2 := S.f 0 0 rfl rfl
      have r3 := S.f 0 1 rfl rfl
      go_region
      obtain rfl : sx = s1 := ea.out
      obtain rfl : tx = t2 := eb.out
      replace S := (S.set2 1 (.int .i64 sx.1) (.int .i64 sx.2) rfl (by omega) (by simp; omega) [_, _, _, _, _] rfl).set2 0 (.int .i64 tx.1) (.int .i64 tx.2) rfl (by omega) (by simp; omega) [_, _, _, _, _] rfl
      have z0 := S.c 1 0 rfl rfl
      have z1 := S.c 1 1 rfl rfl
      have z2 := S.c 0 0 rfl rfl
      have z3 := S.c 0 1 rfl rfl
      go_wp2_with fail
      exact bodyPost_ret (v := .tuple #[.agg #[.int .i64 sx.1, .int .i64 sx.2], .agg #[.int .i64 tx.1, .int .i64 tx.2]]) (by simp [results, Try.results20, go_sem, z0, z1, z2, z3]) rfl ⟨rfl, S.b.drew⟩
  · cases l1
    · go_wp2_with fail
      (with_reducible refine (Ra.out _).mono ?_)
      rintro e w5 ⟨rfl, hb⟩
      replace S := S.call hb
      clear c0 c1 f0 f1 d0 d1 g0 g1 Ra hb
      have c0 := S.c 4 0 rfl rfl
      have c1 := S.c 4 1 rfl rfl
      have f0 := S.f 4 0 rfl rfl
      have f1 := S.f 4 1 rfl rfl
      have c2 := S.c 3 0 rfl rfl
      have c3 := S.c 3 1 rfl rfl
      replace S := S.set2 4 (.int .i64 s2.1) (.int .i64 s2.2) rfl (Nat.le_refl _) (by simp; omega) [_, _, _, _, _] rfl
      go_wp2_with fail
      generalize (w5.setCell ⟨w.heap.size, 0, none⟩ (.int .i64 s2.1)).setCell ⟨w.heap.size, 1, none⟩ (.int .i64 s2.2) = w6 at *
      have p0 := S.c 4 0 rfl rfl
      have p1 := S.c 4 1 rfl rfl
      have p2 := S.c 3 0 rfl rfl
      have p3 := S.c 3 1 rfl rfl
      have q0 := S.c 1 0 rfl rfl
      have q1 := S.c 1 1 rfl rfl
      have q2 := S.c 0 0 rfl rfl
      have q3 := S.c 0 1 rfl rfl
      have r0 := S.f 1 0 rfl rfl
      have r1 := S.f 1 1 rfl rfl
      have r2 := S.f 0 0 rfl rfl
      have r3 := S.f 0 1 rfl rfl
      go_region
      obtain rfl : sx = s2 := ea.out
      obtain rfl : tx = t1 := eb.out
      replace S := (S.set2 1 (.int .i64 sx.1) (.int .i64 sx.2) rfl (by omega) (by simp; omega) [_, _, _, _, _] rfl).set2 0 (.int .i64 tx.1) (.int .i64 tx.2) rfl (by omega) (by simp; omega) [_, _, _, _, _] rfl
      have z0 := S.c 1 0 rfl rfl
      have z1 := S.c 1 1 rfl rfl
      have z2 := S.c 0 0 rfl rfl
      have z3 := S.c 0 1 rfl rfl
      go_wp2_with fail
      exact bodyPost_ret (v := .tuple #[.agg #[.int .i64 sx.1, .int .i64 sx.2], .agg #[.int .i64 tx.1, .int .i64 tx.2]]) (by simp [results, Try.results20, go_sem, z0, z1, z2, z3]) rfl ⟨rfl, S.b.drew⟩
    · go_wp2_with fail
      generalize (w3.setCell ⟨w.heap.size + 1, 0, none⟩ (.int .i64 t1.1)).setCell ⟨w.heap.size + 1, 1, none⟩ (.int .i64 t1.2) = w6 at *
      have p0 := S.c 4 0 rfl rfl
      have p1 := S.c 4 1 rfl rfl
      have p2 := S.c 3 0 rfl rfl
      have p3 := S.c 3 1 rfl rfl
      have q0 := S.c 1 0 rfl rfl
      have q1 := S.c 1 1 rfl rfl
      have q2 := S.c 0 0 rfl rfl
      have q3 := S.c 0 1 rfl rfl
      have r0 := S.f 1 0 rfl rfl
      have r1 := S.f 1 1 rfl rfl
      have r2 := S.f 0 0 rfl rfl
      have r3 := S.f 0 1 rfl rfl
      go_region
      obtain rfl : sx = s1 := ea.out
      obtain rfl : tx = t1 := eb.out
      replace S := (S.set2 1 (.int .i64 sx.1) (.int .i64 sx.2) rfl (by omega) (by simp; omega) [_, _, _, _, _] rfl).set2 0 (.int .i64 tx.1) (.int .i64 tx.2) rfl (by omega) (by simp; omega) [_, _, _, _, _] rfl
      have z0 := S.c 1 0 rfl rfl
      have z1 := S.c 1 1 rfl rfl
      have z2 := S.c 0 0 rfl rfl
      have z3 := S.c 0 1 rfl rfl
      go_wp2_with fail
      exact bodyPost_ret (v := .tuple #[.agg #[.int .i64 sx.1, .int .i64 sx.2], .agg #[.int .i64 tx.1, .int .i64 tx.2]]) (by simp [results, Try.results20, go_sem, z0, z1, z2, z3]) rfl ⟨rfl, S.b.drew⟩

end Go.Proofs.Ytpjbblmhpkapnaa
