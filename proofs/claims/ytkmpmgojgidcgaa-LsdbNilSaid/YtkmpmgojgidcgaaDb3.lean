/-
  lsdb: Get; what is held, as a function.
-/
import Derived.Test.YtkmpmgojgidcgaaDb2
namespace Go.Proofs.Ytkmpmgojgidcgaa
set_option linter.unusedVariables false
open Go.RowKit Go.Maps Go.Sort

/-- What is held for any number. -/
def getO (N : Db) (i : Int) : Option Hd := if 0 ≤ i ∧ i < 64 then N i.toNat else none
def getX (o : Option Hd) : La := match o with | some h => h.x | none => laZero
/-- Sizes that the copies want. -/
def Few33 (N : Db) : Prop := ∀ i h, N i = some h → h.x.adj.length ≤ 1000000 ∧ h.x.pre.length ≤ 1000000
/-- An element that is read, the zero one where there is none. -/
theorem elem_form {w : World} {g b : Nat} {N : Db} (h : DbAt w g b N) (hf : Few33 N) (i : Int) : ∃ M, MapIs w b M ∧ (M i).isSome = (getO N i).isSome ∧ (∃ A c B d l, (M i).getD hdZ = hdV (getX (getO N i)) A c B d l ∧ LaAt w (laV (getX (getO N i)).o (getX (getO N i)).s (getX (getO N i)).a (getX (getO N i)).ov A (getX (getO N i)).adj.length c B (getX (getO N i)).pre.length d) (getX (getO N i))) ∧
    (getX (getO N i)).adj.length ≤ 1000000 ∧ (getX (getO N i)).pre.length ≤ 1000000 := by
  obtain ⟨⟨M, hm, he⟩, hc⟩ := h
  refine ⟨M, hm, ?_⟩
  by_cases hi : 0 ≤ i ∧ i < 64
  · have e1 : getO N i = N i.toNat := by unfold getO; rw [if_pos hi]
    have hei := he i.toNat (by omega)
    rw [Int.toNat_of_nonneg hi.1] at hei
    rw [e1]
    cases hM : M i with
    | none =>
      rw [hM] at hei
      cases hN : N i.toNat with
      | none => exact ⟨rfl, ⟨none, 0, none, 0, 0, rfl, (laZero_own w w.heap.size).at⟩, by simp [getX, laZero], by simp [getX, laZero]⟩
      | some hh => rw [hN] at hei; exact hei.elim
    | some v =>
      rw [hM] at hei
      cases hN : N i.toNat with
      | none => rw [hN] at hei; exact hei.elim
      | some hh =>
        rw [hN] at hei
        obtain ⟨A, c, B, d, rfl, hl⟩ := hei
        exact ⟨rfl, ⟨A, c, B, d, hh.l, rfl, hl⟩, (hf _ _ hN).1, (hf _ _ hN).2⟩
  · have e1 : getO N i = none := by unfold getO; rw [if_neg hi]
    have hM : M i = none := by
      cases h2 : M i with
      | none => rfl
      | some v => exact absurd (hm.small (i := i) (by rw [h2]; rfl)) (by omega)
    rw [e1, hM]
    exact ⟨rfl, ⟨none, 0, none, 0, 0, rfl, (laZero_own w w.heap.size).at⟩, by simp [getX, laZero], by simp [getX, laZero]⟩

def GetPost (w : World) (o : Option Hd) (e : Ending) (w' : World) : Prop :=
  ∃ v, e = .returned (.tuple #[v, .bool o.isSome]) ∧ LaOwn w' w.heap.size v (getX o) ∧ Below w.heap.size w w'

set_option maxRecDepth 100000 in
set_option maxHeartbeats 3200000 in
theorem dget_any (w : World) (g b : Nat) (N : Db) (i : Int) (hi : (Lit.int .i64 i).wf = true) (h : DbAt w g b N) (hf : Few33 N) : Calls Try.prog 15 #[.pointer (some ⟨g, 0, none⟩), .int .i64 i] w (GetPost w (getO N i)) := by
  obtain ⟨M, hm, hs, ⟨A, c, B, d, l, hv, hl⟩, hb1, hb2⟩ := elem_form h hf i
  have hc := h.cell
  generalize hG : getO N i = G at *
  have S := (St.start w).new' #[.int .i64 0, .int .i64 0, .int .i64 0, .bool false, .slice none 0 0, .slice none 0 0] 30 w.heap.size _ rfl rfl
  have hc1 := cell_later S.b hc
  have L := (hm.below S.b).run_ok hi
  rw [hv, hs] at L
  unfold GetPost
  generalize G.isSome = ok at *
  generalize getX G = x at *
  have C := fun W hb => dclone_any W _ x (hl.below hb) hb1 hb2
  unfold hdV at L
  replace C := Lib.hid C
  clear hl hv hm hs h hf hG hb1 hb2 hi
  have r0 := S.c 0 0 rfl rfl
  have r1 := S.c 0 1 rfl rfl
  have r2 := S.c 0 2 rfl rfl
  have r3 := S.c 0 3 rfl rfl
  have r4 := S.c 0 4 rfl rfl
  have r5 := S.c 0 5 rfl rfl
  go_enter Try.func15, Try.ntmps15
  go_upto_region 4 with fail
  have S2 := S.new' #[.int .i64 x.o, .int .i64 x.s, .int .i64 x.a, .bool x.ov, .slice A x.adj.length c, .slice B x.pre.length d, .int .i64 l] 89 (w.heap.size + 1) _ (by simp) rfl
  clear r0 r1 r2 r3 r4 r5
  clear L hc1 S hc
  generalize World.alloc (World.alloc _ _) _ = w2 at *
  have a0 := S2.c 0 0 rfl rfl
  have a1 := S2.c 0 1 rfl rfl
  have a2 := S2.c 0 2 rfl rfl
  have a3 := S2.c 0 3 rfl rfl
  have a4 := S2.c 0 4 rfl rfl
  have a5 := S2.c 0 5 rfl rfl
  have a6 := S2.c 0 6 rfl rfl
  go_wp2_with fail
  (with_reducible refine (C.out _ S2.b).mono ?_)
  rintro e w3 ⟨v3, rfl, hown, hb⟩
  have T := (S2.call hb).keepBoxes [(w.heap.size, [.int .i64 0, .int .i64 0, .int .i64 0, .bool false, .slice none 0 0, .slice none 0 0])] (by simp)
  have hsz := S2.b.size
  have hlt := S2.lt 1 rfl (by simp)
  obtain ⟨A1, c1, B1, d1, rfl, o1, o2, hu⟩ := hown
  clear a0 a1 a2 a3 a4 a5 a6
  clear S2 hb C
  have r0 := T.c 0 0 rfl rfl
  have r1 := T.c 0 1 rfl rfl
  have r2 := T.c 0 2 rfl rfl
  have r3 := T.c 0 3 rfl rfl
  have r4 := T.c 0 4 rfl rfl
  have r5 := T.c 0 5 rfl rfl
  have f0 := T.f 0 0 rfl rfl
  have f1 := T.f 0 1 rfl rfl
  have f2 := T.f 0 2 rfl rfl
  have f3 := T.f 0 3 rfl rfl
  have f4 := T.f 0 4 rfl rfl
  have f5 := T.f 0 5 rfl rfl
  have S9 := T.set6 x.o x.s x.a x.ov (.slice A1 x.adj.length c1) (.slice B1 x.pre.length d1) (Nat.le_refl _) (by simp)
  have q1 := own_set6 o1 hlt (.int .i64 x.o) (.int .i64 x.s) (.int .i64 x.a) (.bool x.ov) (.slice A1 x.adj.length c1) (.slice B1 x.pre.length d1)
  have q2 := own_set6 o2 hlt (.int .i64 x.o) (.int .i64 x.s) (.int .i64 x.a) (.bool x.ov) (.slice A1 x.adj.length c1) (.slice B1 x.pre.length d1)
  have hb9 := S9.b
  go_wp2_with fail
  exact bodyPost_ret (v := .tuple #[laV x.o x.s x.a x.ov A1 x.adj.length c1 B1 x.pre.length d1, .bool ok]) (by simp [results, Try.results15, go_sem, r0, r1, r2, r3, r4, r5]) rfl ⟨_, rfl, ⟨A1, c1, B1, d1, rfl, own_mono q1 (by omega), own_mono q2 (by omega), hu⟩, hb9⟩

end Go.Proofs.Ytkmpmgojgidcgaa
