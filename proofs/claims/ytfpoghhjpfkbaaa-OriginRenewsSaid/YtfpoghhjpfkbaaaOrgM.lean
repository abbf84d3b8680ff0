/-
  origin: make, New, Floor, Current.
-/
import Derived.Test.YtfpoghhjpfkbaaaOrg
namespace Go.Proofs.Ytfpoghhjpfkbaaa
set_option linter.unusedVariables false
open Go.RowKit Go.Sort

theorem below_grownBy {w w' : World} (hb : Below w.heap.size w w') (row : Option Nat) : w.grownBy w' row := ⟨hb.os, hb.tape, hb.output, hb.size, fun k hk _ => hb.block k hk⟩
section
variable {w w' : World} {g : Nat} {x : La} {mk : Bool}
theorem OrAt.setS (h : OrAt w g x mk) (s : Int) : OrAt (w.setCell ⟨g, 4, none⟩ (.int .i64 s)) g { x with s := s } mk := by
  obtain ⟨A, c, B, d, h0, h1, h2, h3, h4, h5, h6, h7, h8, h9⟩ := h
  exact ⟨A, c, B, d, h0.set 4 (.int .i64 s) (by simp), h1.grown (grownBy_set _ _ _ _) h8, h2.grown (grownBy_set _ _ _ _) h9, h3, h4, h5, h6, h7, h8, h9⟩
theorem OrAt.setM (h : OrAt w g x mk) (m : Bool) : OrAt (w.setCell ⟨g, 5, none⟩ (.bool m)) g x m := by
  obtain ⟨A, c, B, d, h0, h1, h2, h3, h4, h5, h6, h7, h8, h9⟩ := h
  exact ⟨A, c, B, d, h0.set 5 (.bool m) (by simp), h1.grown (grownBy_set _ _ _ _) h8, h2.grown (grownBy_set _ _ _ _) h9, h3, h4, h5, h6, h7, h8, h9⟩
theorem OrAt.setA (h : OrAt w g x mk) (a : Int) : OrAt (w.setCell ⟨g, 6, none⟩ (.int .i64 a)) g { x with a := a } mk := by
  obtain ⟨A, c, B, d, h0, h1, h2, h3, h4, h5, h6, h7, h8, h9⟩ := h
  exact ⟨A, c, B, d, h0.set 6 (.int .i64 a) (by simp), h1.grown (grownBy_set _ _ _ _) h8, h2.grown (grownBy_set _ _ _ _) h9, h3, h4, h5, h6, h7, h8, h9⟩
/-- New contents. -/
theorem OrAt.setC (h : OrAt w g x mk) {y : La} {A : Option Addr} {c : Nat} {B : Option Addr} {d base : Nat} (hown : CoOwn w base (coV y.ov A y.adj.length c B y.pre.length d) y) (hg : g < base) :
    OrAt (((w.setCell ⟨g, 0, none⟩ (.bool y.ov)).setCell ⟨g, 1, none⟩ (.slice A y.adj.length c)).setCell ⟨g, 2, none⟩ (.slice B y.pre.length d)) g (num x.o x.s x.a y) mk := by
  obtain ⟨A', c', B', d', h0, _⟩ := h
  obtain ⟨A9, c9, B9, d9, e9, o1, o2, hu⟩ := hown
  simp only [coV, Value.agg.injEq, Array.mk.injEq, List.cons.injEq, Value.slice.injEq, true_and, and_true] at e9
  obtain ⟨⟨rfl, rfl⟩, rfl, rfl⟩ := e9
  obtain ⟨r1, l1, m1, f1⟩ := own_read o1
  obtain ⟨r2, l2, m2, f2⟩ := own_read o2
  have k1 : ∀ ad, A = some ad → ad.block ≠ g := fun ad e => by have := f1 ad e; omega
  have k2 : ∀ ad, B = some ad → ad.block ≠ g := fun ad e => by have := f2 ad e; omega
  have hg3 := ((grownBy_set w g 0 (.bool y.ov)).trans (grownBy_set _ g 1 (.slice A y.adj.length c))).trans (grownBy_set _ g 2 (.slice B y.pre.length d))
  exact ⟨A, c, B, d, ((h0.set 0 (.bool y.ov) (by simp)).set 1 (.slice A y.adj.length c) (by simp)).set 2 (.slice B y.pre.length d) (by simp), r1.grown hg3 k1, r2.grown hg3 k2, l1, m1, l2, m2, hu, k1, k2⟩
theorem OrAt.co (h : OrAt w g x mk) : ∃ A c B d, Box w g [.bool x.ov, .slice A x.adj.length c, .slice B x.pre.length d, .int .i64 x.o, .int .i64 x.s, .bool mk, .int .i64 x.a] ∧ CoAt w (coV x.ov A x.adj.length c B x.pre.length d) x := by
  obtain ⟨A, c, B, d, h0, h1, h2, h3, h4, h5, h6, h7, _⟩ := h
  exact ⟨A, c, B, d, h0, A, c, B, d, rfl, h1, h2, h3, h4, h5, h6, h7⟩
theorem OrAt.len (h : OrAt w g x mk) : ∀ p ∈ x.pre, p.1 < 4294967296 := by
  obtain ⟨A, c, B, d, h0, h1, h2, h3, h4, h5, h6, h7, _⟩ := h
  exact h7
end

def MakePost (w : World) (g : Nat) (x : La) (mk : Bool) (e : Ending) (w' : World) : Prop := e = .returned (.tuple #[]) ∧ OrAt w' g x mk ∧ w.grownBy w' (some g)
set_option maxRecDepth 100000 in
set_option maxHeartbeats 1600000 in
theorem make_any (w : World) (g : Nat) (x : La) (mk : Bool) (h : OrAt w g x mk) (h0 : -1 ≤ x.s) (h1 : x.s ≤ 1073741824) :
    Calls Try.prog 33 #[.pointer (some ⟨g, 0, none⟩)] w (MakePost w g { x with s := x.s + 1, a := 0 } true) := by
  have hfin : Hid (MakePost w g { x with s := x.s + 1, a := 0 } true (.returned (.tuple #[])) (((w.setCell ⟨g, 4, none⟩ (.int .i64 (x.s + 1))).setCell ⟨g, 5, none⟩ (.bool true)).setCell ⟨g, 6, none⟩ (.int .i64 0))) :=
    ⟨rfl, ((h.setS (x.s + 1)).setM true).setA 0, ((grownBy_set w g 4 _).trans (grownBy_set _ g 5 _)).trans (grownBy_set _ g 6 _)⟩
  obtain ⟨A, c, B, d, b, _⟩ := h
  have c4 := b.c 4 rfl
  have c5 := b.c 5 rfl
  have c6 := b.c 6 rfl
  have f4 := b.f 4 rfl
  have f5 := b.f 5 rfl
  have f6 := b.f 6 rfl
  clear b
  generalize x.s = s at *
  go_enter Try.func33, Try.ntmps33
  go_wp2_with fail
  exact bodyPost_ret (v := .tuple #[]) (by simp [results, Try.results33, go_sem]) rfl hfin.out

def OrNew (w : World) (node : Int) (e : Ending) (w' : World) : Prop :=
  e = .returned (.tuple #[.pointer (some ⟨w.heap.size, 0, none⟩), .int .i64 0]) ∧ OrAt w' w.heap.size ⟨node, 0, 0, false, [], []⟩ false ∧ Below w.heap.size w w'
set_option maxRecDepth 100000 in
set_option maxHeartbeats 800000 in
theorem onew_ok (w : World) (node : Int) (h0 : 0 ≤ node) (h1 : node < 64) : Calls Try.prog 10 #[.int .i64 node] w (OrNew w node) := by
  have hfin : Hid (OrNew w node (.returned (.tuple #[.pointer (some ⟨w.heap.size, 0, none⟩), .int .i64 0])) (w.alloc (.cells #[.bool false, .slice none 0 0, .slice none 0 0, .int .i64 node, .int .i64 0, .bool false, .int .i64 0] 62))) :=
    ⟨rfl, ⟨none, 0, none, 0, Box.new w #[.bool false, .slice none 0 0, .slice none 0 0, .int .i64 node, .int .i64 0, .bool false, .int .i64 0] _, Rd.nil _ _, Rd.nil _ _, by simp, by simp [maxLen], by simp, by simp [maxLen], by simp, by simp, by simp⟩, below_new' _ _⟩
  go_enter Try.func10, Try.ntmps10
  go_wp2_with fail
  go_ret2
  exact hfin.out
set_option maxRecDepth 100000 in
set_option maxHeartbeats 800000 in
theorem onew_bad (w : World) (node : Int) (h : node < 0 ∨ 64 ≤ node) : Calls Try.prog 10 #[.int .i64 node] w fun e w' => e = .returned (.tuple #[.pointer none, .int .i64 2]) ∧ w = w' := by
  rcases h with h | h
  · go_enter Try.func10, Try.ntmps10
    go_wp2_with fail
    go_ret2
    exact ⟨rfl, rfl⟩
  · have h2 : ¬ node < 0 := by omega
    go_enter Try.func10, Try.ntmps10
    go_wp2_with fail
    go_ret2
    exact ⟨rfl, rfl⟩
set_option maxRecDepth 100000 in
set_option maxHeartbeats 800000 in
theorem floor_any (w : World) (g : Nat) (x : La) (mk : Bool) (h : OrAt w g x mk) : Calls Try.prog 15 #[.pointer (some ⟨g, 0, none⟩)] w fun e w' => e = .returned (.int .i64 x.s) ∧ w = w' := by
  obtain ⟨A, c, B, d, b, _⟩ := h
  have c4 := b.c 4 rfl
  clear b
  go_enter Try.func15, Try.ntmps15
  go_wp2_with fail
  go_ret
  exact ⟨rfl, rfl⟩

/-- What Current returns. -/
def curX (x : La) (mk : Bool) : La := if mk = true then x else laZero
def CurPost (w : World) (x : La) (mk : Bool) (e : Ending) (w' : World) : Prop :=
  ∃ v, e = .returned (.tuple #[v, .bool mk]) ∧ LaOwn w' w.heap.size v (curX x mk) ∧ Below w.heap.size w w'
set_option maxRecDepth 100000 in
set_option maxHeartbeats 1600000 in
theorem current_any (w : World) (g : Nat) (x : La) (mk : Bool) (h : OrAt w g x mk) (hb1 : x.adj.length ≤ 1000000) (hb2 : x.pre.length ≤ 1000000) :
    Calls Try.prog 12 #[.pointer (some ⟨g, 0, none⟩)] w (CurPost w x mk) := by
  obtain ⟨A, c, B, d, b, hco⟩ := h.co
  have S := (St.start w).new' #[.int .i64 0, .int .i64 0, .int .i64 0, .bool false, .slice none 0 0, .slice none 0 0] 32 w.heap.size _ rfl rfl
  have bb := b.later S.b
  have hlt := b.lt (by simp)
  have V := fun W (hb : Below w.heap.size w W) => advert_any W g _ x x.o x.s x.a ((b.later hb).c 3 rfl) (hco.below hb) hb1 hb2
  rw [show num x.o x.s x.a x = x from rfl] at V
  replace V := Lib.hid V
  have c0 := bb.c 0 rfl
  have c1 := bb.c 1 rfl
  have c2 := bb.c 2 rfl
  have c4 := bb.c 4 rfl
  have c5 := bb.c 5 rfl
  have c6 := bb.c 6 rfl
  clear bb b hco h
  have r0 := S.c 0 0 rfl rfl
  have r1 := S.c 0 1 rfl rfl
  have r2 := S.c 0 2 rfl rfl
  have r3 := S.c 0 3 rfl rfl
  have r4 := S.c 0 4 rfl rfl
  have r5 := S.c 0 5 rfl rfl
  have f0 := S.f 0 0 rfl rfl
  have f1 := S.f 0 1 rfl rfl
  have f2 := S.f 0 2 rfl rfl
  have f3 := S.f 0 3 rfl rfl
  have f4 := S.f 0 4 rfl rfl
  have f5 := S.f 0 5 rfl rfl
  cases mk with
  | false =>
    have hfin : Hid (CurPost w x false (.returned (.tuple #[laV 0 0 0 false none 0 0 none 0 0, .bool false])) (w.alloc (.cells #[.int .i64 0, .int .i64 0, .int .i64 0, .bool false, .slice none 0 0, .slice none 0 0] 32))) := ⟨_, rfl, laZero_own _ _, S.b⟩
    go_enter Try.func12, Try.ntmps12
    go_wp2_with fail
    exact bodyPost_ret (v := .tuple #[laV 0 0 0 false none 0 0 none 0 0, .bool false]) (by simp [results, Try.results12, go_sem, r0, r1, r2, r3, r4, r5]) rfl hfin.out
  | true =>
    go_enter Try.func12, Try.ntmps12
    go_wp2_with fail
    have T := S.drew
    go_region_with (go_at_call 29; (with_reducible refine (V.out _ T.b).mono ?_); rintro e w1 ⟨v1, rfl, hown, hb⟩; obtain ⟨A1, c1', B1, d1, rfl, o1, o2, hu⟩ := hown; have T1 := T.call hb; have r0 := T1.c 0 0 rfl rfl; have r1 := T1.c 0 1 rfl rfl; have r2 := T1.c 0 2 rfl rfl; have r3 := T1.c 0 3 rfl rfl; have r4 := T1.c 0 4 rfl rfl; have r5 := T1.c 0 5 rfl rfl; have f0 := T1.f 0 0 rfl rfl; have f1 := T1.f 0 1 rfl rfl; have f2 := T1.f 0 2 rfl rfl; have f3 := T1.f 0 3 rfl rfl; have f4 := T1.f 0 4 rfl rfl; have f5 := T1.f 0 5 rfl rfl)
    all_goals
      have S9 := T1.set6 x.o x.s x.a x.ov (.slice A1 x.adj.length c1') (.slice B1 x.pre.length d1) (Nat.le_refl _) (by simp)
      have q1 := own_set6 o1 (g := w.heap.size) (by simp) (.int .i64 x.o) (.int .i64 x.s) (.int .i64 x.a) (.bool x.ov) (.slice A1 x.adj.length c1') (.slice B1 x.pre.length d1)
      have q2 := own_set6 o2 (g := w.heap.size) (by simp) (.int .i64 x.o) (.int .i64 x.s) (.int .i64 x.a) (.bool x.ov) (.slice A1 x.adj.length c1') (.slice B1 x.pre.length d1)
      have hfin : CurPost w x true _ _ := ⟨_, rfl, ⟨_, _, _, _, rfl, own_mono q1 (by simp), own_mono q2 (by simp), hu⟩, S9.b⟩
      go_wp2_with fail
      exact bodyPost_ret (v := .tuple #[laV x.o x.s x.a x.ov A1 x.adj.length c1' B1 x.pre.length d1, .bool true]) (by simp [results, Try.results12, go_sem, r0, r1, r2, r3, r4, r5]) rfl hfin

end Go.Proofs.Ytfpoghhjpfkbaaa
