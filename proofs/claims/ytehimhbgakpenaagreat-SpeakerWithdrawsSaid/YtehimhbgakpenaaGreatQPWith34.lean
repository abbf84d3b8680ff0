/-
  The texts OrgT, one after the other.
-/
import Derived.Test.YtehimhbgakpenaaGreatQPWith24
namespace Go.Proofs.YtehimhbgakpenaaGreat
set_option linter.unusedVariables false
open Go.RowKit Go.Sort
def times (x:La) (n:Int):Int:=if (n - (1800 - x.a)) / 1800 + 1 ≤ 1073741824 - x.s then (n - (1800 - x.a)) / 1800 + 1 else 1073741824 - x.s
def renews (x:La) (n:Int):Bool:=decide (x.a < 1800) && decide (1800 - x.a ≤ n) && decide (x.s < 1073741824)
def capA (z:Int):Int:=if z ≤ 3599 then z else 3599
def tickX (x:La) (mk:Bool) (n:Int):La :=
 if mk = true ∧ 0 < n then if renews x n = true then { x with s:=x.s + times x n,a:=capA (n - (1800 - x.a) - (times x n - 1) * 1800) } else { x with a:=capA (x.a + n) } else x
def tickB (x:La) (mk:Bool) (n:Int):Bool:=mk && (decide (0 < n) && renews x n)
def TickPost (w:World) (g:Nat) (x:La) (mk b:Bool) (e:Ending) (w':World):Prop:=e = .returned (.bool b) ∧ OrAt w' g x mk ∧ w.grownBy w' (some g)
def TickKeep (w:World) (g:Nat) (x:La) (mk b:Bool) (e:Ending) (w':World):Prop:=TickPost w g x mk b e w' ∧ Keeps w w' g
set_option maxRecDepth 100000 in
set_option maxHeartbeats 3200000 in
theorem otick_keep (w:World) (g:Nat) (x:La) (mk:Bool) (n:Int) (h:OrAt w g x mk) (hn:n ≤ 100000) (hs0:0 ≤ x.s) (hs1:x.s ≤ 1073741824) (ha0:0 ≤ x.a) (ha1:x.a ≤ 3599) :
  Calls Tryz.prog 94 #[.pointer (some ⟨g,0,none⟩),.int .i64 n] w (TickKeep w g (tickX x mk n) mk (tickB x mk n)):=by
 have hfin:Hid (∀ s a,OrAt (((w.setCell ⟨g,4,none⟩ (.int .i64 s)).setCell ⟨g,6,none⟩ (.int .i64 0)).setCell ⟨g,6,none⟩ (.int .i64 a)) g { x with s:=s,a:=a } mk ∧ w.grownBy (((w.setCell ⟨g,4,none⟩ (.int .i64 s)).setCell ⟨g,6,none⟩ (.int .i64 0)).setCell ⟨g,6,none⟩ (.int .i64 a)) (some g) ∧ Keeps w (((w.setCell ⟨g,4,none⟩ (.int .i64 s)).setCell ⟨g,6,none⟩ (.int .i64 0)).setCell ⟨g,6,none⟩ (.int .i64 a)) g) :=
  fun s a=>⟨((h.setS s).setA 0).setA a,((grownBy_set w g 4 _).trans (grownBy_set _ g 6 _)).trans (grownBy_set _ g 6 _),((Keeps.set _ (by omega) (by omega)).trans (by simp) (Keeps.set _ (by omega) (by omega))).trans (by simp) (Keeps.set _ (by omega) (by omega))⟩
 have hfin2:Hid (∀ a,OrAt (w.setCell ⟨g,6,none⟩ (.int .i64 a)) g { x with a:=a } mk ∧ w.grownBy (w.setCell ⟨g,6,none⟩ (.int .i64 a)) (some g) ∧ Keeps w (w.setCell ⟨g,6,none⟩ (.int .i64 a)) g):=fun a=>⟨h.setA a,grownBy_set _ g 6 _,Keeps.set _ (by omega) (by omega)⟩
 have hsame:Hid (OrAt w g x mk ∧ w.grownBy w (some g) ∧ Keeps w w g):=⟨h,below_grownBy (Below.refl _ _) _,.of_cells rfl rfl (TyPres.refl _)⟩
 obtain ⟨A,c,B,d,b,_⟩:=h
 have c4:=b.c 4 rfl
 have c5:=b.c 5 rfl
 have c6:=b.c 6 rfl
 have f4:=b.f 4 rfl
 have f6:=b.f 6 rfl
 clear b
 obtain ⟨x',hx'⟩:∃ x',tickX x mk n = x':=⟨_,rfl⟩
 obtain ⟨b',hb'⟩:∃ b',tickB x mk n = b':=⟨_,rfl⟩
 rw [hx',hb']
 unfold tickX at hx'
 unfold tickB at hb'
 cases mk with
 | false =>
   obtain rfl:false = b':=by rw [← hb']; rfl
   obtain rfl:x = x':=by rw [← hx',if_neg (by simp)]
   clear hx' hb'
   go_enter Tryz.func94,Tryz.ntmps94
   go_wp2_with fail
   go_ret
   exact ⟨⟨rfl,hsame.out.1,hsame.out.2.1⟩,hsame.out.2.2⟩
 | true =>
 by_cases hn0:n ≤ 0
 ·have hnd:decide (0 < n) = false:=by simp; omega
  obtain rfl:false = b':=by rw [← hb',hnd]; rfl
  obtain rfl:x = x':=by rw [← hx',if_neg (by simp; omega)]
  clear hx' hb' hnd
  go_enter Tryz.func94,Tryz.ntmps94
  go_wp2_with fail
  go_ret
  exact ⟨⟨rfl,hsame.out.1,hsame.out.2.1⟩,hsame.out.2.2⟩
 have hnd:decide (0 < n) = true:=by simp; omega
 rw [if_pos ⟨rfl,by omega⟩] at hx'
 rw [hnd] at hb'
 simp only [Bool.true_and] at hb'
 clear hsame hnd
 have hn0':0 < n:=by omega
 by_cases hr:renews x n = true
 ·rw [hr] at hb'
  subst hb'
  rw [if_pos hr] at hx'
  unfold times at hx'
  simp only [renews,Bool.and_eq_true,decide_eq_true_iff] at hr
  obtain ⟨⟨r1,r2⟩,r3⟩:=hr
  have q0:0 ≤ (n - (1800 - x.a)) / 1800 ∧ (n - (1800 - x.a)) / 1800 ≤ 60 ∧ (n - (1800 - x.a)) / 1800 * 1800 ≤ n - (1800 - x.a) ∧ n - (1800 - x.a) < (n - (1800 - x.a)) / 1800 * 1800 + 1800:=by omega
  generalize hq:(n - (1800 - x.a)) / 1800 = q at *
  generalize x.s = s at *
  generalize x.a = a at *
  clear hfin2
  obtain ⟨q1,q2,q3,q4⟩:=q0
  by_cases ht:q + 1 ≤ 1073741824 - s
  ·rw [if_pos ht] at hx'
   have hcap:capA (n - (1800 - a) - (q + 1 - 1) * 1800) = n - (1800 - a + q * 1800):=by unfold capA; rw [if_pos (by omega)]; omega
   rw [hcap] at hx'
   subst hx'
   clear hcap
   have hf:=hfin.out (s + (q + 1)) (n - (1800 - a + q * 1800))
   replace hf:=Lib.hid hf
   clear hfin
   go_enter Tryz.func94,Tryz.ntmps94
   go_wp2_with fail
   go_ret
   exact ⟨⟨rfl,hf.out.1,hf.out.2.1⟩,hf.out.2.2⟩
  ·rw [if_neg ht] at hx'
   have hk0:1 ≤ 1073741824 - s:=by omega
   by_cases hk:n - (1800 - a + (1073741824 - s - 1) * 1800) ≤ 3599
   ·have hcap:capA (n - (1800 - a) - (1073741824 - s - 1) * 1800) = n - (1800 - a + (1073741824 - s - 1) * 1800):=by unfold capA; rw [if_pos (by omega)]; omega
    rw [hcap] at hx'
    subst hx'
    clear hcap
    have hf:=hfin.out (s + (1073741824 - s)) (n - (1800 - a + (1073741824 - s - 1) * 1800))
    replace hf:=Lib.hid hf
    clear hfin
    go_enter Tryz.func94,Tryz.ntmps94
    go_wp2_with fail
    go_ret
    exact ⟨⟨rfl,hf.out.1,hf.out.2.1⟩,hf.out.2.2⟩
   ·have hcap:capA (n - (1800 - a) - (1073741824 - s - 1) * 1800) = 3599:=by unfold capA; rw [if_neg (by omega)]
    rw [hcap] at hx'
    subst hx'
    clear hcap
    have hf:=hfin.out (s + (1073741824 - s)) 3599
    replace hf:=Lib.hid hf
    clear hfin
    go_enter Tryz.func94,Tryz.ntmps94
    go_wp2_with fail
    go_ret
    exact ⟨⟨rfl,hf.out.1,hf.out.2.1⟩,hf.out.2.2⟩
 ·rw [if_neg hr] at hx'
  have hr2:renews x n = false:=by simpa using hr
  rw [hr2] at hb'
  subst hb'
  have hr3:¬ (x.a < 1800) ∨ (x.a < 1800 ∧ ¬ (1800 - x.a ≤ n)) ∨ (x.a < 1800 ∧ 1800 - x.a ≤ n ∧ ¬ x.s < 1073741824):=by
   simp only [renews,Bool.and_eq_true,decide_eq_true_iff] at hr
   omega
  clear hr hr2 hfin
  generalize x.s = s at *
  generalize x.a = a at *
  have hcap:capA (a + n) = if n ≤ 3599 then (if a + n ≤ 3599 then a + n else 3599) else 3599:=by unfold capA; split <;> (try split) <;> omega
  rw [hcap] at hx'
  clear hcap
  by_cases k1:n ≤ 3599
  ·rw [if_pos k1] at hx'
   by_cases k2:a + n ≤ 3599
   ·rw [if_pos k2] at hx'
    subst hx'
    have hf:=Lib.hid (hfin2.out (a + n))
    clear hfin2
    rcases hr3 with h1 | ⟨h1,h2⟩ | ⟨h1,h2,h3⟩
    all_goals
     first
     | (exfalso; omega)
     | skip
    all_goals
     go_enter Tryz.func94,Tryz.ntmps94
     go_wp2_with fail
     go_ret
     exact ⟨⟨rfl,hf.out.1,hf.out.2.1⟩,hf.out.2.2⟩
   ·rw [if_neg k2] at hx'
    have k3:3599 < a + n:=by omega
    subst hx'
    have hf:=Lib.hid (hfin2.out 3599)
    clear hfin2
    rcases hr3 with h1 | ⟨h1,h2⟩ | ⟨h1,h2,h3⟩
    all_goals
     first
     | (exfalso; omega)
     | skip
    all_goals
     go_enter Tryz.func94,Tryz.ntmps94
     go_wp2_with fail
     go_ret
     exact ⟨⟨rfl,hf.out.1,hf.out.2.1⟩,hf.out.2.2⟩
  ·rw [if_neg k1] at hx'
   have k3:3599 < n:=by omega
   subst hx'
   have hf:=Lib.hid (hfin2.out 3599)
   clear hfin2
   rcases hr3 with h1 | ⟨h1,h2⟩ | ⟨h1,h2,h3⟩
   all_goals
    by_cases k2:a + 3599 ≤ 3599
    all_goals
     first
     | (exfalso; omega)
     | skip
   all_goals
     go_enter Tryz.func94,Tryz.ntmps94
     go_wp2_with fail
     go_ret
     first
     | exact ⟨⟨rfl,hf.out.1,hf.out.2.1⟩,hf.out.2.2⟩
     | (have e:a + 3599 = 3599:=by omega
        rw [e]
        exact ⟨⟨rfl,hf.out.1,hf.out.2.1⟩,hf.out.2.2⟩)
end Go.Proofs.YtehimhbgakpenaaGreat
