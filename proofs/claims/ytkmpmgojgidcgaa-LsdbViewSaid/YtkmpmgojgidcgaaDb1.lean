/-
  lsdb: the database in memory; clone, New.
-/
import Derived.Test.YtkmpmgojgidcgaaDbM
import Derived.Test.YtkmpmgojgidcgaaClone
import Derived.Test.YtkmpmgojgidcgaaLaC
import Derived.Test.YtkmpmgojgidcgaaPurge
namespace Go.Proofs.Ytkmpmgojgidcgaa
set_option linter.unusedVariables false
open Go.RowKit Go.Maps Go.Sort

set_option maxRecDepth 100000 in
set_option maxHeartbeats 1600000 in
theorem dclone_any (w : World) (v : Value) (x : La) (h : LaAt w v x) (hb1 : x.adj.length ≤ 1000000) (hb2 : x.pre.length ≤ 1000000) :
    Calls Try.prog 35 #[v] w fun e w' => ∃ v', e = .returned v' ∧ LaOwn w' w.heap.size v' x ∧ Below w.heap.size w w' := by
  obtain ⟨A, c, B, d, rfl, rA, rB, h1, h2, h3, h4, hu⟩ := h
  have S := ((((St.start w).read rB).read rA).new' #[.int .i64 x.o, .int .i64 x.s, .int .i64 x.a, .bool x.ov, .slice A x.adj.length c, .slice B x.pre.length d] 30 w.heap.size _ rfl rfl).new' #[.int .i64 0, .int .i64 0, .int .i64 0, .bool false, .slice none 0 0, .slice none 0 0] 30 (w.heap.size + 1) _ (by simp) rfl
  have C1 := fun W (h : Rd W A (adV x.adj)) => clone_ad W A _ c x.adj h rfl hb1
  have C2 := fun W (h : Rd W B (pfV x.pre)) => clone_pf W B _ d x.pre h rfl hb2
  have hfin : ∀ W' A' c' B' d', W'.ownsRow w.heap.size 61 3 (.slice A' x.adj.length c') x.adj.length (adV x.adj) → W'.ownsRow w.heap.size 86 2 (.slice B' x.pre.length d') x.pre.length (pfV x.pre) → LaOwn W' w.heap.size (laV x.o x.s x.a x.ov A' x.adj.length c' B' x.pre.length d') x := fun W' A' c' B' d' a b => ⟨A', c', B', d', rfl, a, b, hu⟩
  clear rA rB hu
  replace C1 := Lib.hid C1
  replace C2 := Lib.hid C2
  replace hfin := Lib.hid hfin
  generalize x.adj.length = n at *
  generalize x.pre.length = m at *
  generalize x.ov = ov at *
  generalize x.o = o at *
  generalize x.s = s at *
  generalize x.a = ag at *
  have a0 := S.c 1 0 rfl rfl
  have a1 := S.c 1 1 rfl rfl
  have a2 := S.c 1 2 rfl rfl
  have a3 := S.c 1 3 rfl rfl
  have a4 := S.c 1 4 rfl rfl
  have a5 := S.c 1 5 rfl rfl
  go_enter Try.func35, Try.ntmps35
  go_wp2_with fail
  (with_reducible refine (C1.out _ (S.r 0 rfl)).mono ?_)
  rintro e w1 ⟨A1, c1, rfl, o1, hb⟩
  clear a0 a1 a2 a3 a4 a5
  replace S := S.call hb
  clear hb C1
  simp only [World.size_alloc] at o1
  have f1 := S.f 1 4 rfl rfl
  have a0 := S.c 1 0 rfl rfl
  have a1 := S.c 1 1 rfl rfl
  have a2 := S.c 1 2 rfl rfl
  have a3 := S.c 1 3 rfl rfl
  have a4 := S.c 1 4 rfl rfl
  have a5 := S.c 1 5 rfl rfl
  have S2 := S.set 1 4 (.slice A1 n c1) rfl (by simp) (Nat.le_refl _) (by simp) _ rfl
  replace o1 := ownsRow_setCell_below (a := ⟨w.heap.size, 4, none⟩) o1 (by simp only; omega) (.slice A1 n c1)
  have hsz := S2.b.size
  have hlt := S2.lt 0 rfl (by simp)
  go_wp2_with fail
  generalize w1.setCell ⟨w.heap.size, 4, none⟩ (.slice A1 n c1) = w2 at *
  (with_reducible refine (C2.out _ (S2.r 1 rfl)).mono ?_)
  rintro e w3 ⟨B1, d1, rfl, o2, hb⟩
  clear a0 a1 a2 a3 a4 a5
  clear f1 C2 S
  replace o1 := own_below o1 hb
  replace S2 := S2.call hb
  clear hb
  have f2 := S2.f 1 5 rfl rfl
  have e0 := S2.f 0 0 rfl rfl
  have e1 := S2.f 0 1 rfl rfl
  have e2 := S2.f 0 2 rfl rfl
  have e3 := S2.f 0 3 rfl rfl
  have e4 := S2.f 0 4 rfl rfl
  have e5 := S2.f 0 5 rfl rfl
  have a0 := S2.c 1 0 rfl rfl
  have a1 := S2.c 1 1 rfl rfl
  have a2 := S2.c 1 2 rfl rfl
  have a3 := S2.c 1 3 rfl rfl
  have a4 := S2.c 1 4 rfl rfl
  have a5 := S2.c 1 5 rfl rfl
  have b0 := S2.c 0 0 rfl rfl
  have b1 := S2.c 0 1 rfl rfl
  have b2 := S2.c 0 2 rfl rfl
  have b3 := S2.c 0 3 rfl rfl
  have b4 := S2.c 0 4 rfl rfl
  have b5 := S2.c 0 5 rfl rfl
  have S9 := (S2.set 1 5 (.slice B1 m d1) rfl (by simp) (Nat.le_refl _) (by simp) _ rfl).set6 o s ag ov (.slice A1 n c1) (.slice B1 m d1) (by omega) (by simp)
  have o3 := own_set6 (ownsRow_setCell_below (a := ⟨w.heap.size, 5, none⟩) o1 (by simp only; omega) (.slice B1 m d1)) (g := w.heap.size + 1) (by omega) (.int .i64 o) (.int .i64 s) (.int .i64 ag) (.bool ov) (.slice A1 n c1) (.slice B1 m d1)
  have o4 := own_set6 (ownsRow_setCell_below (a := ⟨w.heap.size, 5, none⟩) o2 (by simp only; omega) (.slice B1 m d1)) (g := w.heap.size + 1) (by omega) (.int .i64 o) (.int .i64 s) (.int .i64 ag) (.bool ov) (.slice A1 n c1) (.slice B1 m d1)
  have hf := hfin.out _ _ _ _ _ (own_mono o3 (by omega)) (own_mono o4 (by omega))
  have hb9 := S9.b
  go_wp2_with fail
  exact bodyPost_ret (v := laV o s ag ov A1 n c1 B1 m d1) (by simp [results, Try.results35, go_sem, b0, b1, b2, b3, b4, b5]) rfl ⟨_, rfl, hf, hb9⟩

/-! ### The database -/
/-- A held advertisement. -/
structure Hd where
  x : La
  l : Int
abbrev Db := Nat → Option Hd
abbrev hdV (x : La) (A : Option Addr) (c : Nat) (B : Option Addr) (d : Nat) (l : Int) : Value := .agg #[.int .i64 x.o, .int .i64 x.s, .int .i64 x.a, .bool x.ov, .slice A x.adj.length c, .slice B x.pre.length d, .int .i64 l]
/-- The block of a slice holds things of one type. -/
def TyA (w : World) (A : Option Addr) (n : Nat) (e : TypeId) : Prop := 0 < n → ∀ ad, A = some ad → ∃ cs fr, w.heap[ad.block]? = some (.cells cs e fr)
theorem TyA.keep {w w' : World} {A : Option Addr} {n : Nat} {e : TypeId} (h : TyA w A n e) (hk : ∀ ad, A = some ad → (w.heap[ad.block]?).isSome = true → (∃ cs fr, w.heap[ad.block]? = some (.cells cs e fr)) → w'.heap[ad.block]? = w.heap[ad.block]?) : TyA w' A n e := fun hn ad ha => by
  obtain ⟨cs, fr, e⟩ := h hn ad ha
  exact ⟨cs, fr, (hk ad ha (by rw [e]; rfl) ⟨cs, fr, e⟩).trans e⟩
theorem heap_lt {w : World} {k : Nat} {o : Obj} (h : w.heap[k]? = some o) : k < w.heap.size := (Array.getElem?_eq_some_iff.1 h).1
theorem TyA.below {w w' : World} {A : Option Addr} {n : Nat} {e : TypeId} (h : TyA w A n e) (hb : Below w.heap.size w w') : TyA w' A n e :=
  h.keep fun ad _ _ ⟨cs, fr, e⟩ => hb.block _ (heap_lt e)
/-- An advertisement whose slices lie in blocks of their types. -/
def LaTy (w : World) (x : La) (A : Option Addr) (c : Nat) (B : Option Addr) (d : Nat) : Prop := LaAt w (laV x.o x.s x.a x.ov A x.adj.length c B x.pre.length d) x ∧ TyA w A x.adj.length 61 ∧ TyA w B x.pre.length 86
theorem LaTy.below {w w' : World} {x : La} {A : Option Addr} {c : Nat} {B : Option Addr} {d : Nat} (h : LaTy w x A c B d) (hb : Below w.heap.size w w') : LaTy w' x A c B d := ⟨LaAt.below h.1 hb, h.2.1.below hb, h.2.2.below hb⟩
theorem LaTy.renum {w : World} {x : La} {A : Option Addr} {c : Nat} {B : Option Addr} {d : Nat} (h : LaTy w x A c B d) (o' s' a' : Int) (ov' : Bool) : LaTy w ⟨o', s', a', ov', x.adj, x.pre⟩ A c B d := ⟨LaAt.renum h.1 o' s' a' ov', h.2.1, h.2.2⟩
theorem own_ty {w : World} {base : Nat} {e : TypeId} {size : Nat} {A : Option Addr} {n c : Nat} {xs : List Value} (h : w.ownsRow base e size (.slice A n c) n xs) : TyA w A n e := fun hn ad ha => by
  rcases h.2 with ⟨h2, h3⟩ | ⟨g, cap, cur, h2, hgb, hh, r⟩
  · omega
  · injection h2 with h2 _ _
    rw [ha] at h2
    injection h2 with h2
    subst h2
    exact ⟨_, _, hh⟩
theorem LaOwn.ty {w : World} {base : Nat} {v : Value} {x : La} (h : LaOwn w base v x) : ∃ A c B d, v = laV x.o x.s x.a x.ov A x.adj.length c B x.pre.length d ∧ Hid (∀ W', Below w.heap.size w W' → LaTy W' x A c B d) := by
  have ha := h.at
  obtain ⟨A, c, B, d, rfl, o1, o2, hu⟩ := h
  exact ⟨A, c, B, d, rfl, fun W' hb => ⟨ha.below hb, (own_ty o1).below hb, (own_ty o2).below hb⟩⟩
/-- An element of the map. -/
def ElAt (w : World) : Option Value → Option Hd → Prop
  | none, none => True
  | some v, some h => ∃ A c B d, v = hdV h.x A c B d h.l ∧ LaTy w h.x A c B d
  | _, _ => False
theorem ElAt.below {w w' : World} {v : Option Value} {h : Option Hd} (he : ElAt w v h) (hb : Below w.heap.size w w') : ElAt w' v h := by
  match v, h, he with
  | none, none, _ => trivial
  | some v, some h, ⟨A, c, B, d, e, hl⟩ => exact ⟨A, c, B, d, e, hl.below hb⟩
/-- A row that is read does not lie in a map's block. -/
theorem Rd.keptMap {w w' : World} {A : Option Addr} {xs : List Value} {b : Nat} {M : Int → Option Value} (h : Rd w A xs) (hm : MapIs w b M) (hg : w.grownBy w' (some b)) : Rd w' A xs := by
  intro hn
  obtain ⟨ad, e, hb⟩ := h.block hn
  obtain ⟨ad', e', hc⟩ := h hn
  rw [e] at e'
  injection e' with e'
  subst e'
  refine ⟨ad, e, fun j u hu => ?_⟩
  have hcell := hc j u hu
  have hne : (ad.add j).block ≠ b := fun e2 => by
    have := hm.no_cell (ad.add j).off (ad.add j).spot
    rw [← e2] at this
    rw [show (⟨(ad.add j).block, (ad.add j).off, (ad.add j).spot⟩ : Addr) = ad.add j from rfl, hcell] at this
    cases this
  rw [World.cell?_of_block (hg.block _ (World.block_lt_of_cell? _ _ hcell) (fun e2 => hne (by injection e2)))]
  exact hcell
theorem LaAt.keptMap {w w' : World} {v : Value} {x : La} {b : Nat} {M : Int → Option Value} (h : LaAt w v x) (hm : MapIs w b M) (hg : w.grownBy w' (some b)) : LaAt w' v x := by
  obtain ⟨A, c, B, d, rfl, h1, h2, h3⟩ := h
  exact ⟨A, c, B, d, rfl, h1.keptMap hm hg, h2.keptMap hm hg, h3⟩
theorem LaTy.keptMap {w w' : World} {x : La} {A : Option Addr} {c : Nat} {B : Option Addr} {d : Nat} {b : Nat} {M : Int → Option Value} (h : LaTy w x A c B d) (hm : MapIs w b M) (hg : w.grownBy w' (some b)) : LaTy w' x A c B d := by
  have key : ∀ {A : Option Addr} {n : Nat} {e : TypeId}, TyA w A n e → TyA w' A n e := fun {A n e} h => h.keep fun ad _ _ ⟨cs, fr, e2⟩ => hg.block _ (heap_lt e2) (fun e3 => by
    injection e3 with e3
    obtain ⟨D, ⟨es, clock, hb, _⟩, _⟩ := hm
    rw [e3, hb] at e2
    cases e2)
  exact ⟨LaAt.keptMap h.1 hm hg, key h.2.1, key h.2.2⟩
theorem ElAt.keptMap {w w' : World} {v : Option Value} {h : Option Hd} {b : Nat} {M : Int → Option Value} (he : ElAt w v h) (hm : MapIs w b M) (hg : w.grownBy w' (some b)) : ElAt w' v h := by
  match v, h, he with
  | none, none, _ => trivial
  | some v, some h, ⟨A, c, B, d, e, hl⟩ => exact ⟨A, c, B, d, e, hl.keptMap hm hg⟩
/-- The database in block g, its map in block b. -/
structure DbAt (w : World) (g b : Nat) (N : Db) : Prop where
  ex : ∃ M, MapIs w b M ∧ ∀ i : Nat, i < 64 → ElAt w (M (i : Int)) (N i)
  cell : w.cell? ⟨g, 0, none⟩ = some (.map (some b))
theorem DbAt.below {w w' : World} {g b : Nat} {N : Db} (h : DbAt w g b N) (hb : Below w.heap.size w w') : DbAt w' g b N := by
  obtain ⟨⟨M, hm, he⟩, hc⟩ := h
  exact ⟨⟨M, hm.below hb, fun i hi => (he i hi).below hb⟩, cell_later hb hc⟩
theorem DbAt.lt {w : World} {g b : Nat} {N : Db} (h : DbAt w g b N) : g < w.heap.size ∧ b < w.heap.size := by
  obtain ⟨⟨M, hm, _⟩, hc⟩ := h
  exact ⟨World.block_lt_of_cell? _ _ hc, hm.lt⟩
theorem DbAt.ne {w : World} {g b : Nat} {N : Db} (h : DbAt w g b N) : g ≠ b := fun e => by
  obtain ⟨⟨M, hm, _⟩, hc⟩ := h
  rw [e, hm.no_cell] at hc
  cases hc
/-- Beside a map that was written: another element there. -/
theorem DbAt.put {w w' : World} {g b : Nat} {N : Db} {M : Int → Option Value} (hm : MapIs w b M) (he : ∀ i : Nat, i < 64 → ElAt w (M (i : Int)) (N i)) (hc : w.cell? ⟨g, 0, none⟩ = some (.map (some b))) (hgb : g ≠ b) (k : Nat) (hk : k < 64) (v : Option Value) (h : Option Hd) (hv : ElAt w v h)
    (hm' : MapIs w' b (fun j => if j = (k : Int) then v else M j)) (hg : w.grownBy w' (some b)) : DbAt w' g b (fun i => if i = k then h else N i) := by
  refine ⟨⟨_, hm', fun i hi => ?_⟩, ?_⟩
  · by_cases e : i = k
    · subst e; simp only [if_true]; exact hv.keptMap hm hg
    · have e' : ¬ (i : Int) = (k : Int) := by omega
      simp only [if_neg e, if_neg e']
      exact (he i hi).keptMap hm hg
  · rw [World.cell?_of_block (a := ⟨g, 0, none⟩) (hg.block g (World.block_lt_of_cell? _ _ hc) (fun e => hgb (by injection e)))]
    exact hc

set_option maxRecDepth 100000 in
set_option maxHeartbeats 1600000 in
/-- New. -/
theorem dnew_any (w : World) : Calls Try.prog 11 #[] w fun e w' => e = .returned (.pointer (some ⟨w.heap.size + 1, 0, none⟩)) ∧ DbAt w' (w.heap.size + 1) w.heap.size (fun _ => none) ∧ Below w.heap.size w w' := by
  have hfin : DbAt ((w.alloc (.map #[] 0)).alloc (.cells #[.map (some w.heap.size)] 83)) (w.heap.size + 1) w.heap.size (fun _ => none) := by
    have hb := below_new' (w.alloc (.map #[] 0)) (.cells #[.map (some w.heap.size)] 83)
    refine ⟨⟨_, (MapIs.made w).below hb, fun i hi => trivial⟩, ?_⟩
    simp
  have hbl : Below w.heap.size w ((w.alloc (.map #[] 0)).alloc (.cells #[.map (some w.heap.size)] 83)) := (below_new' w _).trans ((below_new' _ _).mono (by simp))
  have hmm := @run_makeMap Try.prog
  replace hfin := Lib.hid hfin
  go_enter Try.func11, Try.ntmps11
  go_wp2_with fail
  go_ret
  exact ⟨rfl, hfin.out, hbl⟩

end Go.Proofs.Ytkmpmgojgidcgaa
