/-
  The texts OrgS, one after the other.
-/
import Derived.Test.YtbkpholkjgjicaaGreatQPSpNew3
import Derived.StillTailTactics
import Derived.Lib.QuietBelow
namespace Go.Proofs.YtbkpholkjgjicaaGreat
set_option linter.unusedVariables false
open Go.RowKit Go.Sort

/-- The state, whether there is a current advertisement; whether one was made, the error. -/
structure OrR where
  x : La
  now : Bool
  made : Bool
  err : Int
noncomputable def setP (x : La) (mk : Bool) (y : La) : OrR :=
  if vB (num x.o 1 0 y) = true then if mk = true ∧ conB x y = true then ⟨x, mk, false, 0⟩ else if 1073741824 ≤ x.s then ⟨x, mk, false, 6⟩ else ⟨num x.o (x.s + 1) 0 y, true, true, 0⟩ else ⟨x, mk, false, 1⟩
noncomputable def hearP (x : La) (mk : Bool) (a : La) : OrR :=
  if vB a = true ∧ a.o = x.o then if mk = true then if newI a x ≤ 0 then ⟨x, mk, false, 0⟩ else if 1073741824 ≤ a.s then ⟨x, mk, false, 6⟩ else ⟨num x.o (a.s + 1) 0 x, true, true, 0⟩ else ⟨num x.o (max x.s a.s) x.a x, mk, false, 0⟩ else ⟨x, mk, false, 1⟩
def OrPost (w : World) (g : Nat) (r : OrR) (e : Ending) (w' : World) : Prop := e = .returned (.tuple #[.bool r.made, .int .i64 r.err]) ∧ OrAt w' g r.x r.now ∧ w.grownBy w' (some g)

/-- .. with where the slices lie. -/
def OrKeep (w : World) (g : Nat) (r : OrR) (e : Ending) (w' : World) : Prop := OrPost w g r e w' ∧ Keeps w w' g
theorem OrKeep.same {w w' : World} {g : Nat} {x : La} {mk : Bool} (h : OrAt w g x mk) (hb : Below w.heap.size w w') (err : Int) : OrKeep w g ⟨x, mk, false, err⟩ (.returned (.tuple #[.bool false, .int .i64 err])) w' := ⟨⟨rfl, h.below hb, below_grownBy hb _⟩, .below h.lt hb⟩

set_option maxRecDepth 100000 in
set_option maxHeartbeats 3200000 in
theorem oset_keep (w : World) (g : Nat) (v : Value) (x y : La) (mk : Bool) (h : OrAt w g x mk) (hv : CoAt w v y) (hb1 : y.adj.length ≤ 1000000) (hb2 : y.pre.length ≤ 1000000) (hs0 : 0 ≤ x.s) (hs1 : x.s ≤ 1073741824) :
    Calls Tryz.prog 62 #[.pointer (some ⟨g, 0, none⟩), v] w (OrKeep w g (setP x mk y)) := by
  obtain ⟨A', c', B', d', bx, hco⟩ := h.co
  obtain ⟨A, c, B, d, rfl⟩ := hv.form
  have S := (St.start w).new' #[.bool y.ov, .slice A y.adj.length c, .slice B y.pre.length d] 129 w.heap.size _ rfl rfl
  have V := fun W (hb : Below w.heap.size w W) => advert_any W g _ y x.o 1 0 ((bx.later hb).c 3 rfl) (hv.below hb) hb1 hb2
  have E := fun W (hb : Below w.heap.size w W) => coequal_any W _ _ x y (hco.below hb) (hv.below hb)
  have C := fun W (hb : Below w.heap.size w W) => coclone_any W _ y (hv.below hb) hb1 hb2
  replace bx : Hid (∀ W, Below w.heap.size w W → Box W g [.bool x.ov, .slice A' x.adj.length c', .slice B' x.pre.length d', .int .i64 x.o, .int .i64 x.s, .bool mk, .int .i64 x.a]) := fun W hb => bx.later hb
  have hglt := h.lt
  replace h := Lib.hid h
  clear hco hv
  have hva := fun W v hv => valid_at W v (num x.o 1 0 y) hv
  obtain ⟨r, hr⟩ : ∃ r, setP x mk y = r := ⟨_, rfl⟩
  rw [hr]
  unfold setP at hr
  generalize vB (num x.o 1 0 y) = vb at *
  generalize conB x y = cb at *
  replace hr := Lib.hid hr
  replace V := Lib.hid V
  replace E := Lib.hid E
  replace C := Lib.hid C
  replace hva := Lib.hid hva
  have b0 := S.c 0 0 rfl rfl
  have b1 := S.c 0 1 rfl rfl
  have b2 := S.c 0 2 rfl rfl
  go_enter Tryz.func62, Tryz.ntmps62
  go_wp2_with fail
  (with_reducible refine (V.out _ S.b).mono ?_)
  rintro e w1 ⟨v1, rfl, hown, hb⟩
  clear V
  clear b0 b1 b2
  replace S := S.call hb
  clear hb
  obtain ⟨A1, c1, B1, d1, rfl, hL1⟩ := hown.open
  have h1 := hL1.out _ (Below.refl _ _)
  clear hL1 hown
  go_wp2_with fail
  (with_reducible refine (hva.out _ _ h1).mono ?_)
  rintro e w2 ⟨rfl, hb⟩
  replace S := S.call hb
  clear hb h1 hva
  cases vb with
  | false =>
    obtain rfl : ⟨x, mk, false, 1⟩ = r := by rw [← hr.out, if_neg (by simp)]
    go_wp2_with fail
    go_ret2
    exact .same h.out S.b 1
  | true =>
  have bx2 := bx.out _ S.b
  have o0 := bx2.c 0 rfl
  have o1 := bx2.c 1 rfl
  have o2 := bx2.c 2 rfl
  have o4 := bx2.c 4 rfl
  have o5 := bx2.c 5 rfl
  go_wp2_with fail
  replace o0 := cell_regrown o0
  replace o1 := cell_regrown o1
  replace o2 := cell_regrown o2
  replace o4 := cell_regrown o4
  replace o5 := cell_regrown o5
  have b0 := cell_regrown (S.c 0 0 rfl rfl)
  have b1 := cell_regrown (S.c 0 1 rfl rfl)
  have b2 := cell_regrown (S.c 0 2 rfl rfl)
  cases mk with
  | true =>
    refine wp_region_quiet_below (by kernel_rfl) (by kernel_rfl) ?_
    repeat (go_big_quiet_step ((first | (go_at_call 94; with_reducible exact Calls.regrown_of (E.out _ (S.b.trans ((below_regrown _ _ _).mono S.b.size)))))))
    refine wpQuiet_nil ?_
    intro _ hw'
    obtain ⟨⟨dq, osq⟩, hw''⟩ := hw'
    subst hw''
    replace S := S.call (below_regrown _ dq osq)
    generalize grow (redrawn _ dq) osq = w3 at *
    clear o0 o1 o2 o4 o5 E
    clear b0 b1 b2
    cases cb with
    | true =>
      obtain rfl : ⟨x, true, false, 0⟩ = r := by rw [← hr.out, if_pos (by simp), if_pos (by simp)]
      go_wp2_with fail
      go_ret2
      exact .same h.out S.b 0
    | false =>
      have o4 := (bx.out _ S.b).c 4 rfl
      by_cases hf : 1073741824 ≤ x.s
      · obtain rfl : ⟨x, true, false, 6⟩ = r := by rw [← hr.out, if_pos (by simp), if_neg (by simp), if_pos hf]
        clear hr
        go_wp2_with fail
        go_ret2
        exact .same h.out S.b 6
      · obtain rfl : ⟨num x.o (x.s + 1) 0 y, true, true, 0⟩ = r := by rw [← hr.out, if_pos (by simp), if_neg (by simp), if_neg hf]
        clear hr
        have b0 := S.c 0 0 rfl rfl
        have b1 := S.c 0 1 rfl rfl
        have b2 := S.c 0 2 rfl rfl
        go_wp2_with fail
        (with_reducible refine (C.out _ S.b).mono ?_)
        rintro e w4 ⟨v4, rfl, hown, hb⟩
        clear b0 b1 b2
        clear o4 C
        have hsz3 := S.b.size
        replace S := S.call hb
        have bx3 := bx.out _ S.b
        have o0 := bx3.c 0 rfl
        have o1 := bx3.c 1 rfl
        have o2 := bx3.c 2 rfl
        have f0 := bx3.f 0 rfl
        have f1 := bx3.f 1 rfl
        have f2 := bx3.f 2 rfl
        obtain ⟨A4, c4, B4, d4, hv4⟩ := hown.at.form
        subst hv4
        have M := make_keep _ g (num x.o x.s x.a y) true ((h.out.below S.b).setC hown (by omega)) (by simp only [num]; omega) (by simp only [num]; omega)
        have hg3 := (((below_grownBy S.b (some g)).trans (grownBy_set w4 g 0 (.bool y.ov))).trans (grownBy_set _ g 1 (.slice A4 y.adj.length c4))).trans (grownBy_set _ g 2 (.slice B4 y.pre.length d4))
        have hkp := Keeps.fresh (W := w) bx3 rfl hown (by omega)
        have hszs : w.heap.size ≤ (((w4.setCell ⟨g, 0, none⟩ (.bool y.ov)).setCell ⟨g, 1, none⟩ (.slice A4 y.adj.length c4)).setCell ⟨g, 2, none⟩ (.slice B4 y.pre.length d4)).heap.size := by simp only [World.size_setCell]; exact S.b.size
        replace hszs := Lib.hid hszs
        replace M := Lib.hid M
        replace hkp := Lib.hid hkp
        clear hown bx3 hb bx2
        go_wp2_with fail
        (with_reducible refine (M.out).mono ?_)
        rintro e w6 ⟨⟨rfl, hor6, hgr⟩, hkm⟩
        clear M
        go_wp2_with fail
        go_ret2
        exact ⟨⟨rfl, hor6, hg3.trans hgr⟩, hkp.out.trans hszs.out hkm⟩
  | false =>
    refine wp_region_quiet_below (by kernel_rfl) (by kernel_rfl) ?_
    repeat (go_big_quiet_step ((fail)))
    refine wpQuiet_nil ?_
    intro _ hw'
    obtain ⟨⟨dq, osq⟩, hw''⟩ := hw'
    subst hw''
    replace S := S.call (below_regrown _ dq osq)
    generalize grow (redrawn _ dq) osq = w3 at *
    clear o0 o1 o2 o4 o5 E
    clear b0 b1 b2
    have o4 := (bx.out _ S.b).c 4 rfl
    by_cases hf : 1073741824 ≤ x.s
    · obtain rfl : ⟨x, false, false, 6⟩ = r := by rw [← hr.out, if_pos (by simp), if_neg (by simp), if_pos hf]
      clear hr
      go_wp2_with fail
      go_ret2
      exact .same h.out S.b 6
    · obtain rfl : ⟨num x.o (x.s + 1) 0 y, true, true, 0⟩ = r := by rw [← hr.out, if_pos (by simp), if_neg (by simp), if_neg hf]
      clear hr
      have b0 := S.c 0 0 rfl rfl
      have b1 := S.c 0 1 rfl rfl
      have b2 := S.c 0 2 rfl rfl
      go_wp2_with fail
      (with_reducible refine (C.out _ S.b).mono ?_)
      rintro e w4 ⟨v4, rfl, hown, hb⟩
      clear b0 b1 b2
      clear o4 C
      have hsz3 := S.b.size
      replace S := S.call hb
      have bx3 := bx.out _ S.b
      have o0 := bx3.c 0 rfl
      have o1 := bx3.c 1 rfl
      have o2 := bx3.c 2 rfl
      have f0 := bx3.f 0 rfl
      have f1 := bx3.f 1 rfl
      have f2 := bx3.f 2 rfl
      obtain ⟨A4, c4, B4, d4, hv4⟩ := hown.at.form
      subst hv4
      have M := make_keep _ g (num x.o x.s x.a y) false ((h.out.below S.b).setC hown (by omega)) (by simp only [num]; omega) (by simp only [num]; omega)
      have hg3 := (((below_grownBy S.b (some g)).trans (grownBy_set w4 g 0 (.bool y.ov))).trans (grownBy_set _ g 1 (.slice A4 y.adj.length c4))).trans (grownBy_set _ g 2 (.slice B4 y.pre.length d4))
      have hkp := Keeps.fresh (W := w) bx3 rfl hown (by omega)
      have hszs : w.heap.size ≤ (((w4.setCell ⟨g, 0, none⟩ (.bool y.ov)).setCell ⟨g, 1, none⟩ (.slice A4 y.adj.length c4)).setCell ⟨g, 2, none⟩ (.slice B4 y.pre.length d4)).heap.size := by simp only [World.size_setCell]; exact S.b.size
      replace hszs := Lib.hid hszs
      replace M := Lib.hid M
      replace hkp := Lib.hid hkp
      clear hown bx3 hb bx2
      go_wp2_with fail
      (with_reducible refine (M.out).mono ?_)
      rintro e w6 ⟨⟨rfl, hor6, hgr⟩, hkm⟩
      clear M
      go_wp2_with fail
      go_ret2
      exact ⟨⟨rfl, hor6, hg3.trans hgr⟩, hkp.out.trans hszs.out hkm⟩

theorem oset_any (w : World) (g : Nat) (v : Value) (x y : La) (mk : Bool) (h : OrAt w g x mk) (hv : CoAt w v y) (hb1 : y.adj.length ≤ 1000000) (hb2 : y.pre.length ≤ 1000000) (hs0 : 0 ≤ x.s) (hs1 : x.s ≤ 1073741824) :
    Calls Tryz.prog 62 #[.pointer (some ⟨g, 0, none⟩), v] w (OrPost w g (setP x mk y)) := (oset_keep w g v x y mk h hv hb1 hb2 hs0 hs1).mono fun _ _ h => h.1

set_option maxRecDepth 100000 in
set_option maxHeartbeats 6400000 in
theorem ohear_keep (w : World) (g : Nat) (v : Value) (x a : La) (mk : Bool) (h : OrAt w g x mk) (hv : LaAt w v a) (hb1 : x.adj.length ≤ 1000000) (hb2 : x.pre.length ≤ 1000000) (hs0 : 0 ≤ x.s) (hs1 : x.s ≤ 1073741824) :
    Calls Tryz.prog 70 #[.pointer (some ⟨g, 0, none⟩), v] w (OrKeep w g (hearP x mk a)) := by
  obtain ⟨A', c', B', d', bx, hco⟩ := h.co
  obtain ⟨A, c, B, d, rfl⟩ := hv.form
  have S := (St.start w).new' #[.int .i64 a.o, .int .i64 a.s, .int .i64 a.a, .bool a.ov, .slice A a.adj.length c, .slice B a.pre.length d] 52 w.heap.size _ rfl rfl
  have V := fun W (hb : Below w.heap.size w W) => valid_at W _ a (hv.below hb)
  have C := fun W (hb : Below w.heap.size w W) => current_any W g x mk (h.below hb) hb1 hb2
  have N := fun W (hb : Below w.heap.size w W) v' (hv' : LaAt W v' x) => lnewer_any W _ v' a x (hv.below hb) hv'
  have hvs : vB a = true → 1 ≤ a.s ∧ a.s ≤ 1073741824 := fun h => (vB_iff.1 h).2.1
  replace bx : Hid (∀ W, Below w.heap.size w W → Box W g [.bool x.ov, .slice A' x.adj.length c', .slice B' x.pre.length d', .int .i64 x.o, .int .i64 x.s, .bool mk, .int .i64 x.a]) := fun W hb => bx.later hb
  have hglt := h.lt
  replace h := Lib.hid h
  clear hco hv
  obtain ⟨r, hr⟩ : ∃ r, hearP x mk a = r := ⟨_, rfl⟩
  rw [hr]
  unfold hearP at hr
  generalize vB a = vb at *
  generalize newI a x = z at *
  replace hr := Lib.hid hr
  replace V := Lib.hid V
  replace C := Lib.hid C
  replace N := Lib.hid N
  replace hvs := Lib.hid hvs
  have o3 := cell_regrown ((bx.out _ S.b).c 3 rfl)
  go_enter Tryz.func70, Tryz.ntmps70
  go_wp2_with fail
  have b0 := cell_regrown (S.c 0 0 rfl rfl)
  have b1 := cell_regrown (S.c 0 1 rfl rfl)
  have b2 := cell_regrown (S.c 0 2 rfl rfl)
  have b3 := cell_regrown (S.c 0 3 rfl rfl)
  have b4 := cell_regrown (S.c 0 4 rfl rfl)
  have b5 := cell_regrown (S.c 0 5 rfl rfl)
  cases vb with
  | false =>
    refine wp_region_quiet_below (by kernel_rfl) (by kernel_rfl) ?_
    repeat (go_big_quiet_step ((first | (go_at_call 77; with_reducible exact Calls.regrown_of (V.out _ (S.b.trans ((below_regrown _ _ _).mono S.b.size)))))))
    refine wpQuiet_nil ?_
    intro _ hw'
    obtain ⟨⟨dq, osq⟩, hw''⟩ := hw'
    subst hw''
    replace S := S.call (below_regrown _ dq osq)
    generalize grow (redrawn _ dq) osq = w3 at *
    obtain rfl : ⟨x, mk, false, 1⟩ = r := by rw [← hr.out, if_neg (by simp)]
    go_wp2_with fail
    go_ret2
    exact .same h.out S.b 1
  | true =>
  by_cases ho : a.o = x.o
  rotate_left
  · have ho2 : (a.o != x.o) = true := by simpa using ho
    obtain rfl : ⟨x, mk, false, 1⟩ = r := by rw [← hr.out, if_neg (by simp [ho])]
    clear hr
    refine wp_region_quiet_below (by kernel_rfl) (by kernel_rfl) ?_
    repeat (go_big_quiet_step ((first | (go_at_call 77; with_reducible exact Calls.regrown_of (V.out _ (S.b.trans ((below_regrown _ _ _).mono S.b.size)))))))
    refine wpQuiet_nil ?_
    intro _ hw'
    obtain ⟨⟨dq, osq⟩, hw''⟩ := hw'
    subst hw''
    replace S := S.call (below_regrown _ dq osq)
    generalize grow (redrawn _ dq) osq = w3 at *
    go_wp2_with fail
    go_ret2
    exact .same h.out S.b 1
  have ho2 : (a.o != x.o) = false := by simpa using ho
  have hr2 := hr.out
  rw [if_pos ⟨by simp, ho⟩] at hr2
  replace hr := Lib.hid hr2
  have hvs2 := hvs.out (by simp)
  clear hr2 ho hvs
  refine wp_region_quiet_below (by kernel_rfl) (by kernel_rfl) ?_
  repeat (go_big_quiet_step ((first | (go_at_call 77; with_reducible exact Calls.regrown_of (V.out _ (S.b.trans ((below_regrown _ _ _).mono S.b.size)))))))
  refine wpQuiet_nil ?_
  intro _ hw'
  obtain ⟨⟨dq, osq⟩, hw''⟩ := hw'
  subst hw''
  replace S := S.call (below_regrown _ dq osq)
  generalize grow (redrawn _ dq) osq = w3 at *
  clear o3 V ho2
  clear b0 b1 b2 b3 b4 b5
  go_wp2_with fail
  (with_reducible refine (C.out _ S.b).mono ?_)
  rintro e w4 ⟨v4, rfl, hown, hb⟩
  clear C
  replace S := S.call hb
  obtain ⟨A4, c4, B4, d4, rfl, hL4⟩ := hown.open
  have h4 := hL4.out _ (Below.refl _ _)
  clear hL4 hown hb
  cases mk with
  | false =>
    rw [show curX x false = laZero from rfl] at *
    replace S := S.new' #[.int .i64 laZero.o, .int .i64 laZero.s, .int .i64 laZero.a, .bool laZero.ov, .slice A4 laZero.adj.length c4, .slice B4 laZero.pre.length d4] 52 (w4.heap.size) _ (by first | rfl | simp) rfl
    obtain rfl : ⟨num x.o (max x.s a.s) x.a x, false, false, 0⟩ = r := by rw [← hr.out, if_neg (by simp)]
    clear hr h4 N
    have hmx : (x.s < a.s ∧ max x.s a.s = a.s) ∨ (¬ x.s < a.s ∧ max x.s a.s = x.s) := by omega
    generalize max x.s a.s = m at *
    rcases hmx with ⟨hm1, rfl⟩ | ⟨hm1, rfl⟩
    all_goals
     go_wp2_with fail
     generalize w4.alloc _ = w5 at *
     have o4 := (bx.out _ S.b).c 4 rfl
     have f4 := (bx.out _ S.b).f 4 rfl
     have b0 := S.c 1 0 rfl rfl
     have b1 := S.c 1 1 rfl rfl
     have b2 := S.c 1 2 rfl rfl
     have b3 := S.c 1 3 rfl rfl
     have b4 := S.c 1 4 rfl rfl
     have b5 := S.c 1 5 rfl rfl
     go_still_tail 10, (by kernel_rfl)
     change wpList _ _ _ _ _ w5.drew
     replace S := S.drew
     clear o4 f4
     clear b0 b1 b2 b3 b4 b5
     have o4 := (bx.out _ S.b).c 4 rfl
     have f4 := (bx.out _ S.b).f 4 rfl
     have hfin : Hid (∀ m', OrAt (w5.drew.setCell ⟨g, 4, none⟩ (.int .i64 m')) g (num x.o m' x.a x) false ∧ w.grownBy (w5.drew.setCell ⟨g, 4, none⟩ (.int .i64 m')) (some g) ∧ Keeps w (w5.drew.setCell ⟨g, 4, none⟩ (.int .i64 m')) g) := fun m' => ⟨(h.out.below S.b).setS m', (below_grownBy S.b (some g)).trans (grownBy_set _ g 4 _), (Keeps.below hglt S.b).trans S.b.size (Keeps.set _ (by omega) (by omega))⟩
     generalize w5.drew = w6 at *
     go_wp2_with fail
     go_ret2
     exact ⟨⟨rfl, (hfin.out _).1, (hfin.out _).2.1⟩, (hfin.out _).2.2⟩
  | true =>
    rw [show curX x true = x from rfl] at *
    replace S := S.new' #[.int .i64 x.o, .int .i64 x.s, .int .i64 x.a, .bool x.ov, .slice A4 x.adj.length c4, .slice B4 x.pre.length d4] 52 (w4.heap.size) _ (by first | rfl | simp) rfl
    replace h4 := h4.below (below_new' _ (.cells #[.int .i64 x.o, .int .i64 x.s, .int .i64 x.a, .bool x.ov, .slice A4 x.adj.length c4, .slice B4 x.pre.length d4] 52))
    have N2 := N.out _ S.b _ h4
    replace N2 := Lib.hid N2
    clear N h4
    have b0 := S.c 1 0 rfl rfl
    have b1 := S.c 1 1 rfl rfl
    have b2 := S.c 1 2 rfl rfl
    have b3 := S.c 1 3 rfl rfl
    have b4 := S.c 1 4 rfl rfl
    have b5 := S.c 1 5 rfl rfl
    have q0 := S.c 0 0 rfl rfl
    have q1 := S.c 0 1 rfl rfl
    have q2 := S.c 0 2 rfl rfl
    have q3 := S.c 0 3 rfl rfl
    have q4 := S.c 0 4 rfl rfl
    have q5 := S.c 0 5 rfl rfl
    go_wp2_with fail
    (with_reducible refine (N2.out).mono ?_)
    rintro e w6 ⟨rfl, hb⟩
    clear N2
    clear b0 b1 b2 b3 b4 b5
    clear q0 q1 q2 q3 q4 q5
    replace S := S.call hb
    clear hb
    by_cases hz : z ≤ 0
    · obtain rfl : ⟨x, true, false, 0⟩ = r := by rw [← hr.out, if_pos (by simp), if_pos hz]
      clear hr
      go_wp2_with fail
      go_ret2
      exact .same h.out S.b 0
    have hz' : ¬ z ≤ 0 := hz
    have b0 := S.c 1 0 rfl rfl
    have b1 := S.c 1 1 rfl rfl
    have b2 := S.c 1 2 rfl rfl
    have b3 := S.c 1 3 rfl rfl
    have b4 := S.c 1 4 rfl rfl
    have b5 := S.c 1 5 rfl rfl
    by_cases hs : 1073741824 ≤ a.s
    · obtain rfl : ⟨x, true, false, 6⟩ = r := by rw [← hr.out, if_pos (by simp), if_neg hz, if_pos hs]
      clear hr
      go_wp2_with fail
      go_ret2
      exact .same h.out S.b 6
    obtain rfl : ⟨num x.o (a.s + 1) 0 x, true, true, 0⟩ = r := by rw [← hr.out, if_pos (by simp), if_neg hz, if_neg hs]
    clear hr
    have o4 := (bx.out _ S.b).c 4 rfl
    have f4 := (bx.out _ S.b).f 4 rfl
    have M := make_keep _ g { x with s := a.s } true ((h.out.below S.b).setS a.s) (by simp only; omega) (by simp only; omega)
    have hg3 := (below_grownBy S.b (some g)).trans (grownBy_set w6 g 4 (.int .i64 a.s))
    have hkp : Hid (Keeps w (w6.setCell ⟨g, 4, none⟩ (.int .i64 a.s)) g) := (Keeps.below hglt S.b).trans S.b.size (Keeps.set _ (by omega) (by omega))
    have hszs : Hid (w.heap.size ≤ (w6.setCell ⟨g, 4, none⟩ (.int .i64 a.s)).heap.size) := by show _ ≤ _; simp only [World.size_setCell]; exact S.b.size
    replace M := Lib.hid M
    go_wp2_with fail
    (with_reducible refine (M.out).mono ?_)
    rintro e w7 ⟨⟨rfl, hor6, hgr⟩, hkm⟩
    clear M
    go_wp2_with fail
    go_ret2
    exact ⟨⟨rfl, hor6, hg3.trans hgr⟩, hkp.out.trans hszs.out hkm⟩

theorem ohear_any (w : World) (g : Nat) (v : Value) (x a : La) (mk : Bool) (h : OrAt w g x mk) (hv : LaAt w v a) (hb1 : x.adj.length ≤ 1000000) (hb2 : x.pre.length ≤ 1000000) (hs0 : 0 ≤ x.s) (hs1 : x.s ≤ 1073741824) :
    Calls Tryz.prog 70 #[.pointer (some ⟨g, 0, none⟩), v] w (OrPost w g (hearP x mk a)) := (ohear_keep w g v x a mk h hv hb1 hb2 hs0 hs1).mono fun _ _ h => h.1

end Go.Proofs.YtbkpholkjgjicaaGreat
