import Derived.Test.YtkmpmgojgidcgaaDb4
import Derived.Test.YtkmpmgojgidcgaaDb5
import Derived.Test.YtkmpmgojgidcgaaSameR
import Derived.Test.YtkmpmgojgidcgaaLaC
import Derived.Test.YtkmpmgojgidcgaaLaArg
/-
  lsdb: the methods of a nil pointer.
-/
namespace Go.Proofs.Ytkmpmgojgidcgaa
set_option linter.unusedVariables false
open Go.RowKit Go.Maps Go.Sort

set_option maxRecDepth 100000 in
set_option maxHeartbeats 800000 in
theorem dinstall_nil (w : World) (v : Value) (x : La) (h : LaAt w v x) : Calls Try.prog 14 #[.pointer none, v] w fun e w' => e = .returned (.tuple #[.int .i64 0, .int .i64 7]) ∧ Below w.heap.size w w' := by
  obtain ⟨A, c, B, d, rfl⟩ := h.form
  have hb := below_new' w (.cells #[.int .i64 x.o, .int .i64 x.s, .int .i64 x.a, .bool x.ov, .slice A x.adj.length c, .slice B x.pre.length d] 30)
  go_enter Try.func14, Try.ntmps14
  go_wp2_with fail
  go_ret2
  exact ⟨rfl, hb⟩

set_option maxRecDepth 100000 in
set_option maxHeartbeats 800000 in
theorem dget_nil (w : World) (i : Int) : Calls Try.prog 15 #[.pointer none, .int .i64 i] w fun e w' => e = .returned (.tuple #[laV 0 0 0 false none 0 0 none 0 0, .bool false]) ∧ Below w.heap.size w w' := by
  have S := (St.start w).new' #[.int .i64 0, .int .i64 0, .int .i64 0, .bool false, .slice none 0 0, .slice none 0 0] 30 w.heap.size _ rfl rfl
  have r0 := S.c 0 0 rfl rfl
  have r1 := S.c 0 1 rfl rfl
  have r2 := S.c 0 2 rfl rfl
  have r3 := S.c 0 3 rfl rfl
  have r4 := S.c 0 4 rfl rfl
  have r5 := S.c 0 5 rfl rfl
  have f0 := S.f 0 0 rfl rfl
  have f1 := S.f 0 1 rfl rfl
  have f2 := S.f 0 2 rfl rfl
  have f3 := S.f 0 3 rfl rfl
  have f4 := S.f 0 4 rfl rfl
  have f5 := S.f 0 5 rfl rfl
  have hb := S.b
  go_enter Try.func15, Try.ntmps15
  go_wp2_with fail
  exact bodyPost_ret (v := .tuple #[laV 0 0 0 false none 0 0 none 0 0, .bool false]) (by simp [results, Try.results15, go_sem, r0, r1, r2, r3, r4, r5]) rfl ⟨rfl, hb⟩

set_option maxRecDepth 100000 in
set_option maxHeartbeats 800000 in
theorem dorigins_nil (w : World) : Calls Try.prog 43 #[.pointer none] w fun e w' => e = .returned (.slice none 0 0) ∧ w = w' := by
  go_enter Try.func43, Try.ntmps43
  go_wp2_with fail
  go_ret
  exact ⟨rfl, rfl⟩

set_option maxRecDepth 100000 in
set_option maxHeartbeats 1600000 in
theorem dtick_nil (w : World) : Calls Try.prog 32 #[.pointer none, .int .i64 1] w fun e w' => e = .returned (.slice none 0 0) ∧ Below w.heap.size w w' := by
  have hb := Below.refl w.heap.size w
  go_enter Try.func32, Try.ntmps32
  go_wp2_with fail
  (with_reducible refine (dorigins_nil _).mono ?_)
  rintro e w1 ⟨rfl, rfl⟩
  go_wp2_with fail
  go_loopw [5, 16] (fun v5 v16 wr => v5 = .slice none 0 0 ∧ v16 = .int .i64 0 ∧ wr = w) (fun _ _ _ => 0)
  case atStart => exact ⟨rfl, rfl, rfl⟩
  case round =>
    obtain ⟨rfl, rfl, rfl⟩ := hrel
    go_wp2_with fail
    go_ret
    exact ⟨rfl, hb⟩

set_option maxRecDepth 100000 in
set_option maxHeartbeats 1600000 in
theorem dall_nil (w : World) : Calls Try.prog 21 #[.pointer none] w fun e w' => e = .returned (.slice none 0 0) ∧ Below w.heap.size w w' := by
  have hb := Below.refl w.heap.size w
  go_enter Try.func21, Try.ntmps21
  go_wp2_with fail
  (with_reducible refine (dorigins_nil _).mono ?_)
  rintro e w1 ⟨rfl, rfl⟩
  go_wp2_with fail
  go_loopw [3, 9] (fun v5 v16 wr => v5 = .slice none 0 0 ∧ v16 = .int .i64 0 ∧ wr = w) (fun _ _ _ => 0)
  case atStart => exact ⟨rfl, rfl, rfl⟩
  case round =>
    obtain ⟨rfl, rfl, rfl⟩ := hrel
    go_wp2_with fail
    go_ret
    exact ⟨rfl, hb⟩

set_option maxRecDepth 100000 in
set_option maxHeartbeats 1600000 in
theorem ddigest_nil (w : World) : Calls Try.prog 23 #[.pointer none] w fun e w' => e = .returned (.slice none 0 0) ∧ Below w.heap.size w w' := by
  have hb := Below.refl w.heap.size w
  go_enter Try.func23, Try.ntmps23
  go_wp2_with fail
  (with_reducible refine (dorigins_nil _).mono ?_)
  rintro e w1 ⟨rfl, rfl⟩
  go_wp2_with fail
  go_loopw [3, 10] (fun v5 v16 wr => v5 = .slice none 0 0 ∧ v16 = .int .i64 0 ∧ wr = w) (fun _ _ _ => 0)
  case atStart => exact ⟨rfl, rfl, rfl⟩
  case round =>
    obtain ⟨rfl, rfl, rfl⟩ := hrel
    go_wp2_with fail
    go_ret
    exact ⟨rfl, hb⟩

end Go.Proofs.Ytkmpmgojgidcgaa

/-
  lsdb: View of a nil pointer.
-/
namespace Go.Proofs.Ytkmpmgojgidcgaa
set_option linter.unusedVariables false
open Go.RowKit Go.Maps Go.Sort

set_option maxRecDepth 100000 in
set_option maxHeartbeats 1600000 in
theorem dview_nil (w : World) : Calls Try.prog 27 #[.pointer none, .agg #[.int .i64 0, .slice none 0 0, .slice none 0 0]] w fun e w' => e = .returned (.tuple #[.agg #[.int .i64 0, .slice none 0 0, .slice none 0 0], .slice none 0 0, .int .i64 7]) ∧ Below w.heap.size w w' := by
  have S := ((St.start w).new' #[.int .i64 0, .slice none 0 0, .slice none 0 0] 66 w.heap.size _ rfl rfl).new' #[.int .i64 0, .slice none 0 0, .slice none 0 0] 66 (w.heap.size + 1) _ (by simp) rfl
  have r0 := S.c 0 0 rfl rfl
  have r1 := S.c 0 1 rfl rfl
  have r2 := S.c 0 2 rfl rfl
  have f0 := S.f 0 0 rfl rfl
  have f1 := S.f 0 1 rfl rfl
  have f2 := S.f 0 2 rfl rfl
  have hb := S.b
  go_enter Try.func27, Try.ntmps27
  go_wp2_with fail
  exact bodyPost_ret (v := .tuple #[.agg #[.int .i64 0, .slice none 0 0, .slice none 0 0], .slice none 0 0, .int .i64 7]) (by simp [results, Try.results27, go_sem, r0, r1, r2]) rfl ⟨rfl, hb⟩

end Go.Proofs.Ytkmpmgojgidcgaa

/-
  chapter 33: the document's example, plain.
-/
namespace Go.Proofs.Ytkmpmgojgidcgaa
set_option linter.unusedVariables false
open Go.RowKit Go.Maps Go.Sort

theorem below_via {B : Nat} {w0 w w' : World} {g : Nat} (h : Below B w0 w) (hg : w.grownBy w' (some g)) (hB : B ≤ g) (hs : B ≤ w.heap.size) : Below B w0 w' := h.grown hg hs (fun k hk => by injection hk with hk; omega)
theorem equB_refl' (x : La) : equB x x = true := by simp [equB, sameB, conB]
/-- An advertisement without adjacencies and prefixes. -/
def bare (o s a : Int) (ov : Bool) : La := ⟨o, s, a, ov, [], []⟩
theorem bare_at (w : World) (o s a : Int) (ov : Bool) : LaAt w (laV o s a ov none 0 0 none 0 0) (bare o s a ov) := ⟨none, 0, none, 0, rfl, Rd.nil _ _, Rd.nil _ _, by simp [bare], by simp [maxLen], by simp [bare], by simp [maxLen], by simp [bare]⟩
theorem bare_valid (o s a : Int) (ov : Bool) (h0 : 0 ≤ o) (h1 : o ≤ 63) (h2 : 1 ≤ s) (h3 : s ≤ 1073741824) (h4 : 0 ≤ a) (h5 : a < 3600) : LaValid (bare o s a ov) := by
  refine ⟨⟨h0, h1⟩, ⟨h2, h3⟩, ⟨h4, by simp only [bare]; omega⟩, by simp [bare], by simp [bare], fun h => by simp only [bare] at h; omega, fun k x hk => by simp [bare] at hk, fun k x hk => by simp [bare] at hk⟩
theorem bare_purge (o s : Int) (h0 : 0 ≤ o) (h1 : o ≤ 63) (h2 : 1 ≤ s) (h3 : s ≤ 1073741824) : LaValid (bare o s 3600 false) := by
  refine ⟨⟨h0, h1⟩, ⟨h2, h3⟩, by simp [bare], by simp [bare], by simp [bare], fun h => by simp [bare], fun k x hk => by simp [bare] at hk, fun k x hk => by simp [bare] at hk⟩
theorem newI_s {x y : La} (hx : LaValid x) (hy : LaValid y) (h : x.s ≠ y.s) : newI x y = cmpI x.s y.s := by
  unfold newI
  rw [vB_t hx, vB_t hy, if_pos ⟨rfl, rfl⟩, if_neg h]

def one (x : La) (l : Int) : Db := fun i => if i = 2 then some ⟨x, l⟩ else none
theorem orgs_one (x : La) (l : Int) : orgs (one x l) = [2] := by rfl
theorem one_ok {x : La} {l : Int} (hx : LaValid x) (ho : x.o = 2) (h1 : 1 ≤ l) (h2 : l ≤ 60) : DbOk (one x l) := by
  intro i h e
  unfold one at e
  split at e
  · injection e with e; subst e; rename_i hi; subst hi
    exact ⟨hx, ho, h1, h2⟩
  · cases e
theorem one_small (x : La) (l : Int) : ∀ i, 64 ≤ i → one x l i = none := fun i hi => by unfold one; rw [if_neg (by omega)]
theorem v4 : LaValid (bare 2 4 0 false) := bare_valid 2 4 0 false (by omega) (by omega) (by omega) (by omega) (by omega) (by omega)
theorem v3 : LaValid (bare 2 3 0 false) := bare_valid 2 3 0 false (by omega) (by omega) (by omega) (by omega) (by omega) (by omega)
theorem v5 : LaValid (bare 2 5 0 false) := bare_valid 2 5 0 false (by omega) (by omega) (by omega) (by omega) (by omega) (by omega)
theorem v6 : LaValid (bare 2 5 3600 false) := bare_purge 2 5 (by omega) (by omega) (by omega) (by omega)
theorem n34 : newI (bare 2 3 0 false) (bare 2 4 0 false) = -1 := by rw [newI_s v3 v4 (by simp [bare])]; simp [bare, cmpI]
theorem n54 : newI (bare 2 5 0 false) (bare 2 4 0 false) = 1 := by rw [newI_s v5 v4 (by simp [bare])]; simp [bare, cmpI]
theorem aw_r1 : instR (fun _ => none) (bare 2 4 0 false) = 1 := by unfold instR; rw [vB_t v4, if_pos rfl]
theorem aw_r2 : instR (one (bare 2 4 0 false) 60) (bare 2 3 0 false) = 3 := by
  unfold instR; rw [vB_t v3, if_pos rfl, show one (bare 2 4 0 false) 60 (bare 2 3 0 false).o.toNat = some ⟨bare 2 4 0 false, 60⟩ from rfl]
  simp only [n34]; simp
theorem aw_r3 : instR (one (bare 2 4 0 false) 60) (bare 2 5 0 false) = 1 := by
  unfold instR; rw [vB_t v5, if_pos rfl, show one (bare 2 4 0 false) 60 (bare 2 5 0 false).o.toNat = some ⟨bare 2 4 0 false, 60⟩ from rfl]
  simp only [n54]; simp
theorem aw_e {x : La} (h : LaValid x) : instE x = 0 := by unfold instE; rw [vB_t h, if_pos rfl]
theorem aw_n1 : instN (fun _ => none) (bare 2 4 0 false) = one (bare 2 4 0 false) 60 := by
  unfold instN; rw [aw_r1, vB_t v4, if_pos ⟨rfl, rfl⟩]; funext i; unfold one; rfl
theorem aw_n2 : instN (one (bare 2 4 0 false) 60) (bare 2 3 0 false) = one (bare 2 4 0 false) 60 := by
  unfold instN; rw [aw_r2, if_neg (by omega)]
theorem aw_n3 : instN (one (bare 2 4 0 false) 60) (bare 2 5 0 false) = one (bare 2 5 0 false) 60 := by
  unfold instN; rw [aw_r3, vB_t v5, if_pos ⟨rfl, rfl⟩]; funext i
  by_cases h : i = 2
  · subst h; rfl
  · unfold one
    rw [if_neg h, if_neg (by show ¬ i = 2; exact h), if_neg h]
theorem aw_t1 : tickN 3600 (one (bare 2 5 0 false) 60) = one (bare 2 5 3600 false) 60 := by
  funext i
  by_cases h : i = 2
  · subst h; simp [tickN, one, tickH, bare, purgeX]
  · simp [tickN, one, h]
theorem aw_l1 : tickL 3600 (one (bare 2 5 0 false) 60) = [2] := by
  unfold tickL; rw [orgs_one]; simp [expH, one, tickH, bare]
theorem aw_t2 : tickN 60 (one (bare 2 5 3600 false) 60) = fun _ => none := by
  funext i
  by_cases h : i = 2
  · subst h; simp [tickN, one, tickH, bare]
  · simp [tickN, one, h]
theorem aw_l2 : tickL 60 (one (bare 2 5 3600 false) 60) = [] := by
  unfold tickL; rw [orgs_one]; simp [expH, one, tickH, bare]

end Go.Proofs.Ytkmpmgojgidcgaa

/-
  chapter 33: awake.
-/
namespace Go.Proofs.Ytkmpmgojgidcgaa
set_option linter.unusedVariables false
open Go.RowKit Go.Maps Go.Sort

set_option maxRecDepth 100000 in
set_option maxHeartbeats 6400000 in
theorem awake_any (w : World) : Calls Try.prog 10 #[] w fun e w' => e = .returned (.bool true) ∧ Below w.heap.size w w' := by
  go_enter Try.func10, Try.ntmps10
  go_wp2_with fail
  (with_reducible refine (dnew_any _).mono ?_)
  rintro e w1 ⟨rfl, D, B⟩
  have I := dinstall_any w1 _ _ _ _ (bare 2 4 0 false) D (bare_at w1 2 4 0 false)
  unfold InstPost at I
  rw [aw_r1, aw_e v4, aw_n1] at I
  replace I := Lib.hid I
  clear D
  go_wp2_with fail
  (with_reducible refine (I.out).mono ?_)
  rintro e w2 ⟨rfl, D, hg⟩
  clear I
  replace B := below_via B hg (Nat.le_refl _) B.size
  have I := dinstall_any w2 _ _ _ _ (bare 2 3 0 false) D (bare_at w2 2 3 0 false)
  unfold InstPost at I
  rw [aw_r2, aw_e v3, aw_n2] at I
  replace I := Lib.hid I
  clear D hg
  go_wp2_with fail
  (with_reducible refine (I.out).mono ?_)
  rintro e w3 ⟨rfl, D, hg⟩
  clear I
  replace B := below_via B hg (Nat.le_refl _) B.size
  have I := dinstall_any w3 _ _ _ _ (bare 2 5 0 false) D (bare_at w3 2 5 0 false)
  unfold InstPost at I
  rw [aw_r3, aw_e v5, aw_n3] at I
  replace I := Lib.hid I
  clear D hg
  go_wp2_with fail
  (with_reducible refine (I.out).mono ?_)
  rintro e w4 ⟨rfl, D, hg⟩
  clear I
  replace B := below_via B hg (Nat.le_refl _) B.size
  have I := dtick_any w4 _ _ _ 3600 D (one_ok v5 rfl (by omega) (by omega)) (one_small _ _) (by omega) (by omega)
  unfold DTickPost at I
  rw [aw_t1, aw_l1] at I
  replace I := Lib.hid I
  clear D hg
  go_wp2_with fail
  (with_reducible refine (I.out).mono ?_)
  rintro e w5 ⟨v5, rfl, o5, D, hg⟩
  clear I
  replace B := below_via B hg (Nat.le_refl _) B.size
  obtain ⟨g5, c5, hv5, r5⟩ : ∃ g5 c5, v5 = .slice (some ⟨g5, 0, none⟩) 1 c5 ∧ Rd w5 (some ⟨g5, 0, none⟩) [.int .i64 2] := by
    obtain ⟨A, c, e, r, _⟩ := own_rd o5
    rcases o5.2 with ⟨e1, h0⟩ | ⟨g, cap, cur, e1, _⟩
    · simp at h0
    · rw [e] at e1
      injection e1 with e1 e2 e3
      exact ⟨g, c, by rw [e, e1]; rfl, by rw [← e1]; exact r⟩
  subst hv5
  clear o5
  have I := dget_any w5 _ _ _ 2 (by decide) D (one_ok v6 rfl (by omega) (by omega) : DbOk (one (bare 2 5 3600 false) 60)).few
  rw [show getO (one (bare 2 5 3600 false) 60) 2 = some ⟨bare 2 5 3600 false, 60⟩ from rfl] at I
  unfold GetPost at I
  rw [show getX (some ⟨bare 2 5 3600 false, 60⟩) = bare 2 5 3600 false from rfl] at I
  rw [show (some (⟨bare 2 5 3600 false, 60⟩ : Hd)).isSome = true from rfl] at I
  replace I := Lib.hid I
  clear hg
  go_wp2_with fail
  (with_reducible refine (I.out).mono ?_)
  rintro e w6 ⟨v6, rfl, hown, hb⟩
  clear I
  obtain ⟨A7, c7, B7, d7, hv7, hL7⟩ := hown.open
  have hv8 : v6 = laV 2 5 3600 false A7 0 c7 B7 0 d7 := hv7
  clear hv7
  subst hv8
  have hbb := below_new' w6 (.cells #[.int .i64 2, .int .i64 5, .int .i64 3600, .bool false, .slice A7 0 c7, .slice B7 0 d7] 30)
  have h7 := hL7.out _ hbb
  have X := Rd.lit w6 #[.int .i64 2, .int .i64 5, .int .i64 3600, .bool false, .slice A7 0 c7, .slice B7 0 d7] 30
  have R := (r5.below hb).below hbb
  replace D := (D.below hb).below hbb
  replace B := (B.trans (hb.mono B.size)).trans (hbb.mono (Nat.le_trans B.size hb.size))
  clear r5 hL7 hown hb hbb
  replace h7 := Lib.hid h7
  replace X := Lib.hid X
  replace R := Lib.hid R
  replace D := Lib.hid D
  replace B := Lib.hid B
  go_wp2_with fail
  generalize World.alloc w6 _ = w7 at *
  obtain ⟨⟨M7, hm7, _⟩, _⟩ := id D.out
  replace hm7 := Lib.hid hm7
  have I := dtick_any w7 _ _ _ 60 D.out (one_ok v6 rfl (by omega) (by omega)) (one_small _ _) (by omega) (by omega)
  unfold DTickPost at I
  rw [aw_t2, aw_l2] at I
  replace I := Lib.hid I
  clear D
  (with_reducible refine (I.out).mono ?_)
  rintro e w8 ⟨u8, rfl, o8, D, hg⟩
  clear I
  have B8 := below_via B.out hg (Nat.le_refl _) B.out.size
  clear B
  obtain ⟨A8, c8, hv8, _⟩ := own_rd o8
  rw [show ([] : List Int).length = 0 from rfl] at hv8
  subst hv8
  clear o8
  replace X := X.out.keptMap hm7.out hg
  replace R := R.out.keptMap hm7.out hg
  replace h7 := h7.out.keptMap hm7.out hg
  clear hm7 hg
  have I := dget_any w8 _ _ _ 2 (by decide) D (fun i h e => nomatch e)
  rw [show getO (fun _ => none) 2 = none from rfl] at I
  unfold GetPost at I
  rw [show (none : Option Hd).isSome = false from rfl] at I
  replace I := Lib.hid I
  clear D
  go_wp2_with fail
  (with_reducible refine (I.out).mono ?_)
  rintro e w9 ⟨v9, rfl, hown, hb⟩
  clear I
  obtain ⟨A9, c9, C9, d9, hv9, _⟩ := hown.open
  have hv8 : v9 = laV 0 0 0 false A9 0 c9 C9 0 d9 := hv9
  clear hv9 hown
  subst hv8
  have hbb := below_new' w9 (.cells #[.int .i64 0, .int .i64 0, .int .i64 0, .bool false, .slice A9 0 c9, .slice C9 0 d9] 30)
  replace X := (X.below hb).below hbb
  replace R := (R.below hb).below hbb
  replace h7 := (h7.below hb).below hbb
  have B9 := (B8.trans (hb.mono B8.size)).trans (hbb.mono (Nat.le_trans B8.size hb.size))
  clear B8 hb hbb
  have a0 := X.at 0 rfl
  have a1 := X.at 1 rfl
  have a2 := X.at 2 rfl
  have a3 := X.at 3 rfl
  have a4 := X.at 4 rfl
  have a5 := X.at 5 rfl
  have a6 := R.at 0 rfl
  have h7q : LaAt _ (laV 2 5 3600 false A7 0 c7 B7 0 d7) (bare 2 5 3600 false) := h7
  have EQ := equal_any _ _ _ (bare 2 5 3600 false) (bare 2 5 3600 false) h7q (bare_at _ 2 5 3600 false)
  rw [equB_refl'] at EQ
  replace EQ := Lib.hid EQ
  replace B9 := Lib.hid B9
  clear X R h7 h7q
  go_wp2_with fail
  (with_reducible refine (EQ.out).mono ?_)
  rintro e w10 ⟨rfl, hb⟩
  go_wp2_with fail
  go_ret
  exact ⟨rfl, B9.out.trans (hb.mono B9.out.size)⟩

end Go.Proofs.Ytkmpmgojgidcgaa

/-
  The walk of the statement LsdbNil.
-/
namespace Go.Proofs.Ytkmpmgojgidcgaa
set_option linter.unusedVariables false
open Go.RowKit Go.Maps Go.Sort

set_option maxRecDepth 100000 in
set_option maxHeartbeats 3200000 in
theorem nil_law (w : World) (v : Value) (x : La) (hx : LaAt w v x) (n : Int) (hn : (Lit.int .i64 n).wf = true) :
    Calls Try.prog 9 #[v, .int .i64 n] w fun e w' => e = .returned (.bool true) ∧ Below w.heap.size w w' := by
  clear hn
  obtain ⟨A, c, B, d, rfl, h1⟩ := hx.opened
  clear hx
  have S := (St.start w).new' #[.int .i64 x.o, .int .i64 x.s, .int .i64 x.a, .bool x.ov, .slice A x.adj.length c, .slice B x.pre.length d] 30 w.heap.size _ rfl rfl
  have K1 := fun W (hb : Below w.heap.size w W) => dinstall_nil W _ x (h1.below hb)
  replace K1 := Lib.hid K1
  clear h1
  have a0 := S.c 0 0 rfl rfl
  have a1 := S.c 0 1 rfl rfl
  have a2 := S.c 0 2 rfl rfl
  have a3 := S.c 0 3 rfl rfl
  have a4 := S.c 0 4 rfl rfl
  have a5 := S.c 0 5 rfl rfl
  go_enter Try.func9, Try.ntmps9
  go_wp2_with fail
  (with_reducible refine (K1.out _ S.b).mono ?_)
  rintro e w1 ⟨rfl, hb⟩
  replace S := S.call hb
  clear hb
  clear a0 a1 a2 a3 a4 a5
  go_wp2_with fail
  (with_reducible refine (dget_nil _ _).mono ?_)
  rintro e w2 ⟨rfl, hb⟩
  replace S := S.call hb
  clear hb
  replace S := S.new' #[.int .i64 0, .int .i64 0, .int .i64 0, .bool false, .slice none 0 0, .slice none 0 0] 30 (w2.heap.size) _ (by first | rfl | simp) rfl
  go_wp2_with fail
  (with_reducible refine (dview_nil _).mono ?_)
  rintro e w3 ⟨rfl, hb⟩
  replace S := S.call hb
  clear hb
  replace S := S.new' #[.int .i64 0, .slice none 0 0, .slice none 0 0] 66 (w3.heap.size) _ (by first | rfl | simp) rfl
  go_wp2_with fail
  (with_reducible refine (awake_any _).mono ?_)
  rintro e w4 ⟨rfl, hb⟩
  replace S := S.call hb
  clear hb
  go_wp2_with fail
  (with_reducible refine (dtick_nil _).mono ?_)
  rintro e w5 ⟨rfl, hb⟩
  replace S := S.call hb
  clear hb
  go_wp2_with fail
  (with_reducible refine (dall_nil _).mono ?_)
  rintro e w6 ⟨rfl, hb⟩
  replace S := S.call hb
  clear hb
  go_wp2_with fail
  (with_reducible refine (ddigest_nil _).mono ?_)
  rintro e w7 ⟨rfl, hb⟩
  replace S := S.call hb
  clear hb
  go_wp2_with fail
  go_ret
  exact ⟨rfl, S.b⟩

end Go.Proofs.Ytkmpmgojgidcgaa

/-
  The statement LsdbNil: for every input that can be read, the law returns true and leaves its arguments as they were. No condition.
-/
namespace Go.Proofs.Ytkmpmgojgidcgaa.lsdbNil
open Go.ChangeShapes Go.WideShapes Go.ChangeAt Go.RowKit
set_option linter.unusedVariables false

set_option maxRecDepth 100000 in
theorem lifted (os : Os) (started : os.Started) (H : Type) (enc : TypeId × Value → H) :
    ReturnsInHanded {} Try.checked os 9 .any (Rows.lsdbNilSpec.pre6 enc Try.prog Try.f9 Rows.lsdbNilRow.domain false) (Rows.lsdbNilSpec.post enc Try.prog Try.f9 false true false false) := by
  refine returnsInHanded_of_change (C := Try.checked) frame_own started (by kernel_rfl) Try.func9
    (ChangeSpec.witness6 (enc := enc) (C := Try.checked) false ⟨#[], #[.agg #[.int .i64 0, .int .i64 0, .int .i64 0, .bool false, .slice none 0 0, .slice none 0 0], .int .i64 0], []⟩ 8 (by kernel_rfl) (by kernel_rfl) (by kernel_rfl) (by kernel_rfl)) ?_
  intro W base args ds gs before hval0 hW hcnd _
  have hval : ∀ (j : Nat) t v, Try.f9.params[j]? = some t → args[j]? = some v → Value.okWide Try.prog W .any base t v := hval0
  have hW' := hW
  obtain ⟨p, q, hA0, hV, rfl, hfz, hnd⟩ := hW
  have hA : DataW.TrodAll enc Try.prog W 0 (fun _ => true) true Try.f9.params.toList args.toList ds p := hA0
  rw [Try.params9] at hA hval
  obtain ⟨v0, vs0, d0, ds0, p0', q0', hargs, rfl, rfl, h0, r0⟩ := trodAll_cons hA
  obtain ⟨v1, vs1, d1, ds1, p1', q1', rfl, rfl, rfl, h1, r1⟩ := trodAll_cons r0
  obtain ⟨rfl, rfl, rfl⟩ := trodAll_nil r1
  obtain rfl : args = #[v0, v1] := by cases args; simp_all
  obtain ⟨rfl, rfl⟩ := trodVars_none hV
  have k0 := h0
  have lt0 : ∀ x ∈ p0', x.block < W.heap.size := by obtain ⟨m, hm⟩ := k0; exact DataW.trod_lt m _ _ _ hm
  have k1 := h1
  have lt1 : ∀ x ∈ p1', x.block < W.heap.size := by obtain ⟨m, hm⟩ := k1; exact DataW.trod_lt m _ _ _ hm
  obtain ⟨x0, hx0⟩ := arg_la (hval 0 30 v0 rfl rfl) h0
  obtain ⟨z1, rfl, _, _, hz1⟩ := open_int Try.underlying3 (hval 1 3 v1 rfl rfl) h1
  clear hA0 hval0
  refine (nil_law W v0 x0 hx0 z1 hz1).mono fun e W' ⟨he, bel⟩ => ?_
  subst he
  exact ⟨_, rfl, _, _, _, [], _, [], hW', trodAll_mk1 (shut_bool Try.underlying4 _), (trodAll_cons_mk (Below.trod frame_laidOut (by kernel_rfl) (of_decide_eq_true (by kernel_rfl)) k0 bel lt0) (trodAll_cons_mk (Below.trod frame_laidOut (by kernel_rfl) (of_decide_eq_true (by kernel_rfl)) k1 bel lt1) trodAll_mk0)), rfl, bel.frame _, fun h => by cases h⟩

theorem over : Rows.lsdbNilRow.holds Try.pinned (OpenSpec.ofChange Rows.lsdbNilSpec) :=
  OpenClaim.holds_of_wide 9 Try.f9 rfl rfl rfl rfl rfl rfl rfl ⟨rfl, rfl, rfl, rfl, rfl⟩ rfl rfl rfl rfl rfl (by kernel_rfl) Try.func9 (by kernel_rfl)
    (of_decide_eq_true (by kernel_rfl)) (by unfold Func.isWrapper; first | (rw [if_pos (by decide +kernel)]; kernel_rfl) | (rw [if_neg (by decide +kernel)]; exact ⟨rfl, rfl⟩))
    (fun os started H enc _ => lifted os started H enc)

theorem proved : Rows.LsdbNilSaid := over
#print axioms proved
end Go.Proofs.Ytkmpmgojgidcgaa.lsdbNil
