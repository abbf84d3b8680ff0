/-
  The texts Db3, Db4, Db5, Db6, DbA, DbAw, DbO, DbNw, DbL, DbNl, Db8, Rd1, RdA, one after the other.
-/
import Derived.Test.YtkmpmgojgidcgaaDb2
import Derived.Test.YtkmpmgojgidcgaaSameR
import Derived.Test.YtkmpmgojgidcgaaLaC
import Derived.Test.YtkmpmgojgidcgaaLaArg
import Derived.Deep.MidRow
namespace Go.Proofs.Ytkmpmgojgidcgaa
set_option linter.unusedVariables false
open Go.RowKit Go.Maps Go.Sort

/-- What is held for any number. -/
def getO (N : Db) (i : Int) : Option Hd := if 0 ≤ i ∧ i < 64 then N i.toNat else none
def getX (o : Option Hd) : La := match o with | some h => h.x | none => laZero
/-- Sizes that the copies want. -/
def Few33 (N : Db) : Prop := ∀ i h, N i = some h → h.x.adj.length ≤ 1000000 ∧ h.x.pre.length ≤ 1000000
/-- An element that is read, the zero one where there is none. -/
theorem elem_form {w : World} {g b : Nat} {N : Db} (h : DbAt w g b N) (hf : Few33 N) (i : Int) : ∃ M, MapIs w b M ∧ (M i).isSome = (getO N i).isSome ∧ (∃ A c B d l, (M i).getD hdZ = hdV (getX (getO N i)) A c B d l ∧ LaAt w (laV (getX (getO N i)).o (getX (getO N i)).s (getX (getO N i)).a (getX (getO N i)).ov A (getX (getO N i)).adj.length c B (getX (getO N i)).pre.length d) (getX (getO N i))) ∧
    (getX (getO N i)).adj.length ≤ 1000000 ∧ (getX (getO N i)).pre.length ≤ 1000000 := by
  obtain ⟨⟨M, hm, he⟩, hc⟩ := h
  refine ⟨M, hm, ?_⟩
  by_cases hi : 0 ≤ i ∧ i < 64
  · have e1 : getO N i = N i.toNat := by unfold getO; rw [if_pos hi]
    have hei := he i.toNat (by omega)
    rw [Int.toNat_of_nonneg hi.1] at hei
    rw [e1]
    cases hM : M i with
    | none =>
      rw [hM] at hei
      cases hN : N i.toNat with
      | none => exact ⟨rfl, ⟨none, 0, none, 0, 0, rfl, (laZero_own w w.heap.size).at⟩, by simp [getX, laZero], by simp [getX, laZero]⟩
      | some hh => rw [hN] at hei; exact hei.elim
    | some v =>
      rw [hM] at hei
      cases hN : N i.toNat with
      | none => rw [hN] at hei; exact hei.elim
      | some hh =>
        rw [hN] at hei
        obtain ⟨A, c, B, d, rfl, hl⟩ := hei
        exact ⟨rfl, ⟨A, c, B, d, hh.l, rfl, hl.1⟩, (hf _ _ hN).1, (hf _ _ hN).2⟩
  · have e1 : getO N i = none := by unfold getO; rw [if_neg hi]
    have hM : M i = none := by
      cases h2 : M i with
      | none => rfl
      | some v => exact absurd (hm.small (i := i) (by rw [h2]; rfl)) (by omega)
    rw [e1, hM]
    exact ⟨rfl, ⟨none, 0, none, 0, 0, rfl, (laZero_own w w.heap.size).at⟩, by simp [getX, laZero], by simp [getX, laZero]⟩

def GetPost (w : World) (o : Option Hd) (e : Ending) (w' : World) : Prop :=
  ∃ v, e = .returned (.tuple #[v, .bool o.isSome]) ∧ LaOwn w' w.heap.size v (getX o) ∧ Below w.heap.size w w'

set_option maxRecDepth 100000 in
set_option maxHeartbeats 3200000 in
theorem dget_any (w : World) (g b : Nat) (N : Db) (i : Int) (hi : (Lit.int .i64 i).wf = true) (h : DbAt w g b N) (hf : Few33 N) : Calls Try.prog 15 #[.pointer (some ⟨g, 0, none⟩), .int .i64 i] w (GetPost w (getO N i)) := by
  obtain ⟨M, hm, hs, ⟨A, c, B, d, l, hv, hl⟩, hb1, hb2⟩ := elem_form h hf i
  have hc := h.cell
  generalize hG : getO N i = G at *
  have S := (St.start w).new' #[.int .i64 0, .int .i64 0, .int .i64 0, .bool false, .slice none 0 0, .slice none 0 0] 30 w.heap.size _ rfl rfl
  have hc1 := cell_later S.b hc
  have L := (hm.below S.b).run_ok hi
  rw [hv, hs] at L
  unfold GetPost
  generalize G.isSome = ok at *
  generalize getX G = x at *
  have C := fun W hb => dclone_any W _ x (hl.below hb) hb1 hb2
  unfold hdV at L
  replace C := Lib.hid C
  clear hl hv hm hs h hf hG hb1 hb2 hi
  have r0 := S.c 0 0 rfl rfl
  have r1 := S.c 0 1 rfl rfl
  have r2 := S.c 0 2 rfl rfl
  have r3 := S.c 0 3 rfl rfl
  have r4 := S.c 0 4 rfl rfl
  have r5 := S.c 0 5 rfl rfl
  go_enter Try.func15, Try.ntmps15
  go_upto_region 4 with fail
  have S2 := S.new' #[.int .i64 x.o, .int .i64 x.s, .int .i64 x.a, .bool x.ov, .slice A x.adj.length c, .slice B x.pre.length d, .int .i64 l] 89 (w.heap.size + 1) _ (by simp) rfl
  clear r0 r1 r2 r3 r4 r5
  clear L hc1 S hc
  generalize World.alloc (World.alloc _ _) _ = w2 at *
  have a0 := S2.c 0 0 rfl rfl
  have a1 := S2.c 0 1 rfl rfl
  have a2 := S2.c 0 2 rfl rfl
  have a3 := S2.c 0 3 rfl rfl
  have a4 := S2.c 0 4 rfl rfl
  have a5 := S2.c 0 5 rfl rfl
  have a6 := S2.c 0 6 rfl rfl
  go_wp2_with fail
  (with_reducible refine (C.out _ S2.b).mono ?_)
  rintro e w3 ⟨v3, rfl, hown, hb⟩
  have T := (S2.call hb).keepBoxes [(w.heap.size, [.int .i64 0, .int .i64 0, .int .i64 0, .bool false, .slice none 0 0, .slice none 0 0])] (by simp)
  have hsz := S2.b.size
  have hlt := S2.lt 1 rfl (by simp)
  obtain ⟨A1, c1, B1, d1, rfl, o1, o2, hu⟩ := hown
  clear a0 a1 a2 a3 a4 a5 a6
  clear S2 hb C
  have r0 := T.c 0 0 rfl rfl
  have r1 := T.c 0 1 rfl rfl
  have r2 := T.c 0 2 rfl rfl
  have r3 := T.c 0 3 rfl rfl
  have r4 := T.c 0 4 rfl rfl
  have r5 := T.c 0 5 rfl rfl
  have f0 := T.f 0 0 rfl rfl
  have f1 := T.f 0 1 rfl rfl
  have f2 := T.f 0 2 rfl rfl
  have f3 := T.f 0 3 rfl rfl
  have f4 := T.f 0 4 rfl rfl
  have f5 := T.f 0 5 rfl rfl
  have S9 := T.set6 x.o x.s x.a x.ov (.slice A1 x.adj.length c1) (.slice B1 x.pre.length d1) (Nat.le_refl _) (by simp)
  have q1 := own_set6 o1 hlt (.int .i64 x.o) (.int .i64 x.s) (.int .i64 x.a) (.bool x.ov) (.slice A1 x.adj.length c1) (.slice B1 x.pre.length d1)
  have q2 := own_set6 o2 hlt (.int .i64 x.o) (.int .i64 x.s) (.int .i64 x.a) (.bool x.ov) (.slice A1 x.adj.length c1) (.slice B1 x.pre.length d1)
  have hb9 := S9.b
  go_wp2_with fail
  exact bodyPost_ret (v := .tuple #[laV x.o x.s x.a x.ov A1 x.adj.length c1 B1 x.pre.length d1, .bool ok]) (by simp [results, Try.results15, go_sem, r0, r1, r2, r3, r4, r5]) rfl ⟨_, rfl, ⟨A1, c1, B1, d1, rfl, own_mono q1 (by omega), own_mono q2 (by omega), hu⟩, hb9⟩

end Go.Proofs.Ytkmpmgojgidcgaa

namespace Go.Proofs.Ytkmpmgojgidcgaa
set_option linter.unusedVariables false
open Go.RowKit Go.Maps Go.Sort

/-- n ticks of a held advertisement; whether it expired. -/
def tickH (n : Int) (h : Hd) : Option Hd × Bool :=
  if h.x.a < 3600 then
    if n < 3600 - h.x.a then (some ⟨{ h.x with a := h.x.a + n }, h.l⟩, false)
    else (if 60 ≤ n - (3600 - h.x.a) then none else some ⟨purgeX h.x, 60 - (n - (3600 - h.x.a))⟩, true)
  else (if h.l ≤ n then none else some ⟨h.x, h.l - n⟩, false)
def tickN (n : Int) (N : Db) : Db := fun i => match N i with | some h => (tickH n h).1 | none => none
def expH (n : Int) (o : Option Hd) : Bool := match o with | some h => (tickH n h).2 | none => false
/-- The origins in order. -/
def orgs (N : Db) : List Int := ((List.range 64).map fun (i : Nat) => (i : Int)).filter fun i => (N i.toNat).isSome
def tickL (n : Int) (N : Db) : List Int := (orgs N).filter fun i => expH n (N i.toNat)
/-- What holds of what is held. -/
def DbOk (N : Db) : Prop := ∀ i h, N i = some h → LaValid h.x ∧ h.x.o = (i : Int) ∧ 1 ≤ h.l ∧ h.l ≤ 60
theorem DbOk.few {N : Db} (h : DbOk N) : Few33 N := fun i x e => by
  have := (h i x e).1
  exact ⟨by have := this.2.2.2.1; omega, by have := this.2.2.2.2.1; omega⟩
theorem orgs_mem {N : Db} (i : Int) : i ∈ orgs N ↔ (0 ≤ i ∧ i < 64) ∧ (N i.toNat).isSome = true := by
  unfold orgs
  rw [List.mem_filter, List.mem_map]
  constructor
  · rintro ⟨⟨k, hk, rfl⟩, h⟩
    exact ⟨⟨by omega, by have := List.mem_range.1 hk; omega⟩, h⟩
  · rintro ⟨⟨h0, h1⟩, h⟩
    exact ⟨⟨i.toNat, List.mem_range.2 (by omega), Int.toNat_of_nonneg h0⟩, h⟩
theorem orgs_sorted (N : Db) : (orgs N).Pairwise (· < ·) := by
  unfold orgs
  refine List.Pairwise.filter _ ?_
  rw [List.pairwise_map]
  exact List.pairwise_lt_range.imp fun h => by omega
theorem orgs_len (N : Db) : (orgs N).length ≤ 64 := by
  unfold orgs
  refine Nat.le_trans (List.length_filter_le _ _) ?_
  simp
theorem keysL_orgs {w : World} {b : Nat} {M : Int → Option Value} {N : Db} (hm : MapIs w b M) (he : ∀ i : Nat, i < 64 → ElAt w (M (i : Int)) (N i)) : keysL M = orgs N := by
  unfold keysL orgs
  refine List.filter_congr fun i hi => ?_
  obtain ⟨k, hk, rfl⟩ := List.mem_map.1 hi
  have := he k (List.mem_range.1 hk)
  rw [Int.toNat_natCast]
  cases hM : M (k : Int) with
  | none =>
    rw [hM] at this
    cases hN : N k with
    | none => rfl
    | some x => rw [hN] at this; exact this.elim
  | some v =>
    rw [hM] at this
    cases hN : N k with
    | none => rw [hN] at this; exact this.elim
    | some x => rfl
/-- Behind k of the origins. -/
def midN (n : Int) (N : Db) (k : Nat) : Db := fun j => if (j : Int) ∈ (orgs N).take k then tickN n N j else N j
theorem midN_zero (n : Int) (N : Db) : midN n N 0 = N := by funext j; simp [midN]
theorem midN_end (n : Int) (N : Db) (hN : ∀ i, 64 ≤ i → N i = none) : midN n N (orgs N).length = tickN n N := by
  funext j
  unfold midN
  rw [List.take_length]
  by_cases h : (j : Int) ∈ orgs N
  · rw [if_pos h]
  · rw [if_neg h]
    have : N j = none := by
      cases hj : N j with
      | none => rfl
      | some x =>
        by_cases h6 : j < 64
        · exact absurd ((orgs_mem (N := N) (j : Int)).2 ⟨⟨by omega, by omega⟩, by rw [Int.toNat_natCast, hj]; rfl⟩) h
        · have := hN j (by omega); rw [hj] at this; cases this
    unfold tickN
    rw [this]
theorem midN_succ (n : Int) (N : Db) (k : Nat) (hk : k < (orgs N).length) (q : Nat) (hq : (orgs N)[k] = (q : Int)) : midN n N (k + 1) = fun j => if j = q then tickN n N q else midN n N k j := by
  funext j
  unfold midN
  rw [List.take_succ_eq_append_getElem hk, hq]
  by_cases h : j = q
  · subst h
    rw [if_pos (by simp), if_pos rfl]
  · rw [if_neg h]
    by_cases h2 : (j : Int) ∈ (orgs N).take k
    · rw [if_pos (by simp [h2]), if_pos h2]
    · rw [if_neg (by simp [h2]; omega), if_neg h2]
theorem midN_at (n : Int) (N : Db) (k : Nat) (hk : k < (orgs N).length) (q : Nat) (hq : (orgs N)[k] = (q : Int)) : midN n N k q = N q := by
  unfold midN
  rw [if_neg]
  intro hm
  have hp := orgs_sorted N
  obtain ⟨i, hi, e⟩ := List.getElem_of_mem hm
  rw [List.length_take] at hi
  rw [List.getElem_take] at e
  have := List.pairwise_iff_getElem.1 hp i k (by omega) hk (by omega)
  rw [e, hq] at this
  omega
theorem tickL_take (n : Int) (N : Db) (k : Nat) (hk : k < (orgs N).length) (q : Nat) (hq : (orgs N)[k] = (q : Int)) : ((orgs N).take (k + 1)).filter (fun i => expH n (N i.toNat)) = ((orgs N).take k).filter (fun i => expH n (N i.toNat)) ++ (if expH n (N q) = true then [(q : Int)] else []) := by
  rw [List.take_succ_eq_append_getElem hk, hq, List.filter_append]
  congr 1
  rw [List.filter_cons, Int.toNat_natCast]
  split <;> simp
/-! ### Memory -/
/-- What has turned since w0: the map in block b alone. -/
theorem grown_belowB {w0 w w' : World} {b B : Nat} (h : w0.grownBy w (some b)) (hb : Below B w w') (hB : w0.heap.size ≤ B) : w0.grownBy w' (some b) :=
  ⟨hb.os.trans h.os, hb.tape.trans h.tape, hb.output.trans h.output, Nat.le_trans h.size hb.size, fun k hk hne => (hb.block k (Nat.lt_of_lt_of_le hk hB)).trans (h.block k hk hne)⟩
theorem MapIs.belowB {w w' : World} {b B : Nat} {M : Int → Option Value} (h : MapIs w b M) (hb : Below B w w') (hB : b < B) : MapIs w' b M := by
  obtain ⟨D, ⟨es, clock, h1, h2⟩, hd⟩ := h
  exact ⟨D, ⟨es, clock, (hb.block b hB).trans h1, h2⟩, hd⟩
theorem own_belowB {w w' : World} {base : Nat} {e : TypeId} {size : Nat} {v : Value} {n : Nat} {xs : List Value} {B : Nat} (h : w.ownsRow base e size v n xs) (hb : Below B w w') (hB : ∀ k, v.ownBlock = some k → k < B) : w'.ownsRow base e size v n xs := by
  refine ⟨h.1, ?_⟩
  rcases h.2 with h2 | ⟨g, cap, cur, rfl, hg, hh, r⟩
  · exact .inl h2
  · exact .inr ⟨g, cap, cur, rfl, hg, (hb.block g (hB g rfl)).trans hh, r⟩
theorem own_rowB {w w' : World} {base : Nat} {e : TypeId} {size : Nat} {v : Value} {n : Nat} {xs : List Value} {b : Nat} (h : w.ownsRow base e size v n xs) (hg : w.grownBy w' (some b)) (hB : b < base) : w'.ownsRow base e size v n xs := by
  refine ⟨h.1, ?_⟩
  rcases h.2 with h2 | ⟨g, cap, cur, rfl, hgb, hh, r⟩
  · exact .inl h2
  · exact .inr ⟨g, cap, cur, rfl, hgb, (hg.block g (h.lt g rfl).2 (fun e => by injection e; omega)).trans hh, r⟩
/-- 'delete(m, i)', as an equation. -/
theorem MapIs.run_del {w : World} {b : Nat} {M : Int → Option Value} (h : MapIs w b M) {i : Int} (hi : (Lit.int .i64 i).wf = true) (ty : TypeId) :
    ∃ w', (Builtin.delete_ #[81, 3] ty #[.map (some b), .int .i64 i]).run Try.prog w = .ok (.tuple #[]) w' ∧ MapIs w' b (fun j => if j = i then none else M j) ∧ w.grownBy w' (some b) := by
  obtain ⟨D, hown, hd⟩ := h
  obtain ⟨w', hrun, r1, r2⟩ := hown.drop keyI Try.underlying81 (keyOfI hi) ty
  exact ⟨w', hrun, .of r1 (hd.del i), r2.grown⟩

end Go.Proofs.Ytkmpmgojgidcgaa

namespace Go.Proofs.Ytkmpmgojgidcgaa
set_option linter.unusedVariables false
open Go.RowKit Go.Maps Go.Sort

theorem dorigins_any (w : World) (g b : Nat) (N : Db) (h : DbAt w g b N) : Calls Try.prog 43 #[.pointer (some ⟨g, 0, none⟩)] w fun e w' => ∃ A c, e = .returned (.slice A (orgs N).length c) ∧
    w'.ownsRow w.heap.size 3 1 (.slice A (orgs N).length c) (orgs N).length ((orgs N).map encZ) ∧ Below w.heap.size w w' := by
  obtain ⟨⟨M, hm, he⟩, hc⟩ := h
  have hko := keysL_orgs hm he
  obtain ⟨D, hown, hd⟩ := hm
  have hs := size_keys hown hd
  refine (origins_any g b 64 D hdR w hc hown (by unfold maxLen; omega) (by omega)).mono ?_
  rintro e w' ⟨v, ss, he, hp, hrow, hnil, hb⟩
  rw [sort_keys hown hd hp, hko] at hrow
  have hl : ss.length = (orgs N).length := by
    rw [← hko, ← sort_keys hown hd hp, List.length_mergeSort]
  rw [hl] at hrow
  obtain ⟨A, c, rfl, _⟩ := own_rd hrow
  exact ⟨A, c, he, hrow, hb⟩

theorem intT : ElemT Try.prog 78 3 (.int .i64 0) 1 8 := ⟨Try.underlying78, by kernel_rfl, rfl, by omega⟩
def DTickPost (w : World) (g b : Nat) (N : Db) (n : Int) (e : Ending) (w' : World) : Prop :=
  ∃ v, e = .returned v ∧ w'.ownsRow w.heap.size 3 1 v (tickL n N).length ((tickL n N).map encZ) ∧ DbAt w' g b (tickN n N) ∧ w.grownBy w' (some b)
/-- The state between two rounds. -/
structure TkAt (w wr : World) (g b : Nat) (N : Db) (n : Int) (B : Nat) (v14 v5 : Value) (k : Nat) (es : List Int) : Prop where
  ex : ∃ M, MapIs wr b M ∧ ∀ i : Nat, i < 64 → ElAt w (M (i : Int)) (midN n N k i)
  cell : wr.cell? ⟨g, 0, none⟩ = some (.map (some b))
  gr : w.grownBy wr (some b)
  o14 : wr.ownsRow w.heap.size 3 1 v14 (orgs N).length ((orgs N).map encZ)
  o5 : wr.ownsRow B 3 1 v5 es.length (es.map encZ)
  he : es = ((orgs N).take k).filter (fun i => expH n (N i.toNat))
  sz : B ≤ wr.heap.size

theorem own_far {w : World} {base : Nat} {e : TypeId} {size : Nat} {v : Value} {n : Nat} {xs : List Value} (h : w.ownsRow base e size v n xs) {p : Addr} (hp : ∀ k, v.ownBlock = some k → k ≠ p.block) (u : Value) : (w.setCell p u).ownsRow base e size v n xs := by
  refine ⟨h.1, ?_⟩
  rcases h.2 with h2 | ⟨g, cap, cur, rfl, hg, hh, r⟩
  · exact .inl h2
  · exact .inr ⟨g, cap, cur, rfl, hg, (heap_setCell_other w p g u (fun e => hp g rfl e)).trans hh, r⟩
/-- The state within a round: the box of the held advertisement lies in block g2. -/
structure TkW (w W : World) (g b : Nat) (M : Int → Option Value) (N : Db) (B : Nat) (v14 v5 : Value) (es : List Int) (g2 : Nat) (cs : List Value) : Prop where
  hm : MapIs W b M
  c : W.cell? ⟨g, 0, none⟩ = some (.map (some b))
  gr : w.grownBy W (some b)
  o14 : W.ownsRow w.heap.size 3 1 v14 (orgs N).length ((orgs N).map encZ)
  o5 : W.ownsRow B 3 1 v5 es.length (es.map encZ)
  l14 : ∀ bb, v14.ownBlock = some bb → bb < B
  l5 : ∀ bb, v5.ownBlock = some bb → bb ≠ g2
  bx : Box W g2 cs
  pos : 0 < cs.length
  hB : B ≤ g2
  hw : w.heap.size ≤ B
  hg : g < w.heap.size
  hb : b < w.heap.size
section
variable {w W W' : World} {g b : Nat} {M : Int → Option Value} {N : Db} {B : Nat} {v14 v5 : Value} {es : List Int} {g2 : Nat} {cs : List Value}
theorem TkW.sz (h : TkW w W g b M N B v14 v5 es g2 cs) : B ≤ W.heap.size := Nat.le_trans h.hB (Nat.le_of_lt (h.bx.lt h.pos))
theorem TkW.set (h : TkW w W g b M N B v14 v5 es g2 cs) (j : Nat) (u : Value) (hj : j < cs.length) (cs' : List Value) (hcs : cs.set j u = cs') : TkW w (W.setCell ⟨g2, j, none⟩ u) g b M N B v14 v5 es g2 cs' := by
  subst hcs
  have h1 := h.hB; have h2 := h.hw; have h3 := h.hg; have h4 := h.hb
  refine ⟨h.hm.kept (grownBy_set W g2 j u) (fun e => by injection e; omega), (cell_far u (by intro e; injection e; omega)).trans h.c, ?_, own_far h.o14 (fun k hk => by have := h.l14 k hk; simp only; omega) u, own_far h.o5 (fun k hk => h.l5 k hk) u, h.l14, h.l5, h.bx.set j u hj, by rw [List.length_set]; exact h.pos, h.hB, h.hw, h.hg, h.hb⟩
  have hg := grownBy_set W g2 j u
  refine ⟨hg.os.trans h.gr.os, hg.tape.trans h.gr.tape, hg.output.trans h.gr.output, Nat.le_trans h.gr.size hg.size, fun k hk hne => ?_⟩
  exact (hg.block k (Nat.lt_of_lt_of_le hk h.gr.size) (fun e => by injection e; omega)).trans (h.gr.block k hk hne)
theorem TkW.below (h : TkW w W g b M N B v14 v5 es g2 cs) (hb : Below W.heap.size W W') : TkW w W' g b M N B v14 v5 es g2 cs :=
  ⟨h.hm.below hb, cell_later hb h.c, h.gr.trans (below_row hb _), own_below h.o14 hb, own_below h.o5 hb, h.l14, h.l5, h.bx.later hb, h.pos, h.hB, h.hw, h.hg, h.hb⟩
theorem TkW.drew (h : TkW w W g b M N B v14 v5 es g2 cs) : TkW w W.drew g b M N B v14 v5 es g2 cs := h.below ⟨rfl, rfl, rfl, Nat.le_refl _, fun _ _ => rfl⟩
theorem TkW.app (h : TkW w W g b M N B v14 v5 es g2 cs) {v5' : Value} {es' : List Int} (ho : W'.ownsRow B 3 1 v5' es'.length (es'.map encZ)) (hbel : Below B W W') (hg : W.grownBy W' v5.ownBlock) (hv : v5'.ownBlock = v5.ownBlock ∨ v5'.ownBlock = some W.heap.size) : TkW w W' g b M N B v14 v5' es' g2 cs := by
  have h1 := h.hB; have h2 := h.hw; have h3 := h.hg; have h4 := h.hb
  have hl := h.bx.lt h.pos
  refine ⟨h.hm.belowB hbel (by omega), (hbel.cell (p := ⟨g, 0, none⟩) (by simp only; omega)).trans h.c, grown_belowB h.gr hbel h.hw, own_belowB h.o14 hbel h.l14, ho, h.l14, fun bb e => ?_, h.bx.kept hg (fun e => h.l5 g2 e.symm rfl) h.pos, h.pos, h.hB, h.hw, h.hg, h.hb⟩
  rcases hv with e2 | e2
  · exact h.l5 bb (e2 ▸ e)
  · rw [e2] at e; injection e; omega
/-- Behind the map's turn. -/
theorem TkW.fin (h : TkW w W g b M N B v14 v5 es g2 cs) {w9 : World} (hg9 : W.grownBy w9 (some b)) : w9.cell? ⟨g, 0, none⟩ = some (.map (some b)) ∧ w.grownBy w9 (some b) ∧ w9.ownsRow w.heap.size 3 1 v14 (orgs N).length ((orgs N).map encZ) ∧ w9.ownsRow B 3 1 v5 es.length (es.map encZ) ∧ B ≤ w9.heap.size := by
  have h1 := h.hB; have h2 := h.hw; have h3 := h.hg; have h4 := h.hb
  have hne : g ≠ b := fun e => by have := h.c; rw [e, h.hm.no_cell] at this; cases this
  refine ⟨?_, h.gr.trans hg9, own_rowB h.o14 hg9 h.hb, own_rowB h.o5 hg9 (by omega), Nat.le_trans h.sz hg9.size⟩
  rw [World.cell?_of_block (a := ⟨g, 0, none⟩) (hg9.block g (World.block_lt_of_cell? _ _ h.c) (fun e => hne (by injection e)))]
  exact h.c
end

set_option maxRecDepth 100000 in
set_option maxHeartbeats 12800000 in
theorem dtick_any (w : World) (g b : Nat) (N : Db) (n : Int) (h : DbAt w g b N) (hok : DbOk N) (hN : ∀ i, 64 ≤ i → N i = none) (hn0 : 0 < n) (hn : n ≤ 1000000) :
    Calls Try.prog 32 #[.pointer (some ⟨g, 0, none⟩), .int .i64 n] w (DTickPost w g b N n) := by
  have O := dorigins_any w g b N h
  have hgb := h.ne
  obtain ⟨hgl, hbl⟩ := h.lt
  have hlen := orgs_len N
  have hfin : Hid (∀ (wr : World) (B : Nat) (v14 v5 : Value) (es : List Int), w.heap.size ≤ B → TkAt w wr g b N n B v14 v5 (orgs N).length es → DTickPost w g b N n (.returned v5) wr) := fun wr B v14 v5 es hB T => by
    obtain ⟨M, hm, he⟩ := T.ex
    rw [midN_end n N hN] at he
    have e2 : es = tickL n N := by rw [T.he, List.take_length]; rfl
    refine ⟨v5, rfl, ?_, ⟨⟨M, hm, fun i hi => ?_⟩, T.cell⟩, T.gr⟩
    · rw [← e2]; exact own_mono T.o5 hB
    · have hmw := h.ex
      obtain ⟨M0, hm0, _⟩ := hmw
      exact (he i hi).keptMap hm0 T.gr
  obtain ⟨⟨M, hm, he⟩, hc⟩ := id h
  replace O := Lib.hid O
  go_enter Try.func32, Try.ntmps32
  go_wp2_with fail
  (with_reducible refine (O.out).mono ?_)
  rintro e w1 ⟨A, c, rfl, o14, hb⟩
  clear O
  have hT : TkAt w w1 g b N n w1.heap.size (.slice A (orgs N).length c) (.slice none 0 0) 0 [] :=
    ⟨⟨M, hm.below hb, fun i hi => by rw [midN_zero]; exact he i hi⟩, cell_later hb hc, below_row hb _, o14, World.ownsRow_nil _ _ _ _, by simp, Nat.le_refl _⟩
  have hlt14 : Hid (∀ bb, (Value.slice A (orgs N).length c).ownBlock = some bb → bb < w1.heap.size) := fun bb e => (o14.lt bb e).2
  have hw1 := hb.size
  replace hm := Lib.hid hm
  clear o14 hb he hc h
  generalize hB : w1.heap.size = B at *
  clear hB
  replace hT := Lib.hid hT
  replace hN := Lib.hid hN
  replace hok := Lib.hid hok
  generalize hL : (orgs N).length = len at *
  replace hL := Lib.hid hL
  go_wp2_with fail
  go_loopw [5, 16] (fun v5 v16 wr => ∃ (k : Nat) (es : List Int), v16 = .int .i64 k ∧ k ≤ len ∧ es.length ≤ k ∧ Hid (TkAt w wr g b N n B (.slice A len c) v5 k es)) (fun _ v16 _ => len - (intOf v16).toNat)
  case atStart => exact ⟨0, [], rfl, by omega, by simp, hT⟩
  case round =>
    clear hT
    obtain ⟨k, es, rfl, hk, hes, hT⟩ := hrel
    by_cases hkn : k < len
    · have hkl : k < (orgs N).length := by rw [hL.out]; exact hkn
      obtain ⟨⟨Mk, hmk, hek⟩, hck, hgr, ho14, ho5, hes2, hsz⟩ := hT.out
      have hmem := (orgs_mem (N := N) (orgs N)[k]).1 (List.getElem_mem hkl)
      obtain ⟨q, hq⟩ := Int.eq_ofNat_of_zero_le hmem.1.1
      have hq64 : q < 64 := by have := hmem.1.2; omega
      obtain ⟨hh, hNq⟩ : ∃ hh, N q = some hh := by
        have := hmem.2
        rw [hq, Int.toNat_natCast] at this
        exact Option.isSome_iff_exists.1 this
      have hat := midN_at n N k hkl q hq
      have hsucc := midN_succ n N k hkl q hq
      have htake := tickL_take n N k hkl q hq
      have heq := hek q hq64
      rw [hat, hNq] at heq
      obtain ⟨Mv, hMv⟩ : ∃ Mv, Mk (q : Int) = Mv := ⟨_, rfl⟩
      rw [hMv] at heq
      cases Mv with
      | none => exact heq.elim
      | some vv =>
      obtain ⟨A2, c2, B2, d2, rfl, hla⟩ := heq
      obtain ⟨hva, hxo, hl1, hl2⟩ := hok.out q hh hNq
      have hage := hva.2.2.1
      have ho14b := ho14
      rw [hL.out] at ho14b
      have r14 := own_slice ho14b
      clear ho14b
      have L := hmk.run_at (i := (q : Int)) (wf64 (by omega) (by omega))
      rw [hMv] at L
      simp only [Option.getD_some] at L
      unfold hdV at L
      obtain ⟨b14, off14, rfl, hz14⟩ := rd_at r14 (by simpa using Nat.lt_of_le_of_lt (Nat.zero_le _) hkl)
      have z14 : wr.cell? ⟨b14, off14 + k, none⟩ = some (.int .i64 (q : Int)) := hz14 k _ (by rw [List.getElem?_map, List.getElem?_eq_getElem hkl, hq]; rfl)
      clear hz14 r14
      have hnext : Hid (∀ (wr' : World) (v5' : Value) (es' : List Int) (Mn : Int → Option Value), MapIs wr' b (fun j => if j = (q : Int) then Mn q else Mk j) → ElAt w (Mn q) (tickN n N q) → wr'.cell? ⟨g, 0, none⟩ = some (.map (some b)) → w.grownBy wr' (some b) →
          wr'.ownsRow w.heap.size 3 1 (.slice (some ⟨b14, off14, none⟩) len c) (orgs N).length ((orgs N).map encZ) → wr'.ownsRow B 3 1 v5' es'.length (es'.map encZ) → es' = es ++ (if expH n (N q) = true then [(q : Int)] else []) → B ≤ wr'.heap.size →
          TkAt w wr' g b N n B (.slice (some ⟨b14, off14, none⟩) len c) v5' (k + 1) es') := fun wr' v5' es' Mn h1 h2 h3 h4 h5 h6 h7 h8 => by
        refine ⟨⟨_, h1, fun i hi => ?_⟩, h3, h4, h5, h6, by rw [h7, htake, ← hes2], h8⟩
        rw [hsucc]
        by_cases e : i = q
        · subst e; simp only [if_true]; exact h2
        · have e' : ¬ (i : Int) = (q : Int) := by omega
          simp only [if_neg e, if_neg e']
          exact hek i hi
      clear hsucc htake hat hek hmem hq hkl hT
      replace hes2 := Lib.hid hes2
      replace hMv := Lib.hid hMv
      replace hxo := Lib.hid hxo
      replace hNq := Lib.hid hNq
      have htk : Hid (tickN n N q = (tickH n hh).1 ∧ expH n (N q) = (tickH n hh).2) := by
        show _ ∧ _
        unfold tickN expH
        rw [hNq.out]
        exact ⟨rfl, rfl⟩
      have b9 := below_new' wr (.cells #[.int .i64 hh.x.o, .int .i64 hh.x.s, .int .i64 hh.x.a, .bool hh.x.ov, .slice A2 hh.x.adj.length c2, .slice B2 hh.x.pre.length d2, .int .i64 hh.l] 89)
      have hT0 : TkW w (wr.alloc (.cells #[.int .i64 hh.x.o, .int .i64 hh.x.s, .int .i64 hh.x.a, .bool hh.x.ov, .slice A2 hh.x.adj.length c2, .slice B2 hh.x.pre.length d2, .int .i64 hh.l] 89)) g b Mk N B (.slice (some ⟨b14, off14, none⟩) len c) u5 es wr.heap.size [.int .i64 hh.x.o, .int .i64 hh.x.s, .int .i64 hh.x.a, .bool hh.x.ov, .slice A2 hh.x.adj.length c2, .slice B2 hh.x.pre.length d2, .int .i64 hh.l] :=
        ⟨hmk.below b9, cell_later b9 hck, hgr.trans (below_row b9 (some b)), own_below ho14 b9, own_below ho5 b9, hlt14.out, fun bb e => by have := (ho5.lt bb e).2; omega, Box.new' wr #[.int .i64 hh.x.o, .int .i64 hh.x.s, .int .i64 hh.x.a, .bool hh.x.ov, .slice A2 hh.x.adj.length c2, .slice B2 hh.x.pre.length d2, .int .i64 hh.l] 89 wr.heap.size _ rfl rfl, by simp, hsz, hw1, hgl, hbl⟩
      go_upto_region 9 with fail
      clear z14 L hmk hck hgr ho14 ho5 hsz b9
      generalize wr.alloc _ = w2 at *
      generalize wr.heap.size = g2 at *
      by_cases hA : hh.x.a < 3600
      · by_cases hB1 : n < 3600 - hh.x.a
        · have hval : tickH n hh = (some ⟨{ hh.x with a := hh.x.a + n }, hh.l⟩, false) := by unfold tickH; rw [if_pos hA, if_pos hB1]
          have e1 := htk.out.1
          have e2 := htk.out.2
          rw [hval] at e1 e2
          have hel : Hid (ElAt w (some (.agg #[.int .i64 hh.x.o, .int .i64 hh.x.s, .int .i64 (hh.x.a + n), .bool hh.x.ov, .slice A2 hh.x.adj.length c2, .slice B2 hh.x.pre.length d2, .int .i64 hh.l])) (tickN n N q)) := by
            show ElAt _ _ _
            rw [e1]
            exact ⟨A2, c2, B2, d2, rfl, hla.renum hh.x.o hh.x.s (hh.x.a + n) hh.x.ov⟩
          have e3 : Hid (es = es ++ (if expH n (N q) = true then [(q : Int)] else [])) := by show _ = _; rw [e2]; simp
          have a2 := hT0.bx.c 2 rfl
          have f2 := hT0.bx.f 2 rfl
          have hT1 := hT0.set 2 (.int .i64 (hh.x.a + n)) (by simp) [.int .i64 hh.x.o, .int .i64 hh.x.s, .int .i64 (hh.x.a + n), .bool hh.x.ov, .slice A2 hh.x.adj.length c2, .slice B2 hh.x.pre.length d2, .int .i64 hh.l] rfl
          clear e1 e2 hval htk hla
          go_upto_region 12 with fail
          clear a2 f2 hT0
          generalize World.setCell _ _ _ = w3 at *
          have TD := hT1.drew
          have c1 := TD.c
          have y0 := TD.bx.c 0 rfl
          have y1 := TD.bx.c 1 rfl
          have y2 := TD.bx.c 2 rfl
          have y3 := TD.bx.c 3 rfl
          have y4 := TD.bx.c 4 rfl
          have y5 := TD.bx.c 5 rfl
          have y6 := TD.bx.c 6 rfl
          obtain ⟨w9, run9, hm9, hg9⟩ := TD.hm.run_put (i := (q : Int)) (by omega) (by omega) (.agg #[.int .i64 hh.x.o, .int .i64 hh.x.s, .int .i64 (hh.x.a + n), .bool hh.x.ov, .slice A2 hh.x.adj.length c2, .slice B2 hh.x.pre.length d2, .int .i64 hh.l])
          obtain ⟨t1, t2, t3, t4, t5⟩ := TD.fin hg9
          have hT9 := hnext.out w9 u5 es (fun _ => some (.agg #[.int .i64 hh.x.o, .int .i64 hh.x.s, .int .i64 (hh.x.a + n), .bool hh.x.ov, .slice A2 hh.x.adj.length c2, .slice B2 hh.x.pre.length d2, .int .i64 hh.l])) hm9 (hel.out) t1 t2 t3 t4 (e3.out) t5
          replace hT9 := Lib.hid hT9
          clear hm9 hg9 t1 t2 t3 t4 t5 TD hT1
          go_region_law (fail)
          all_goals
            clear run9 y0 y1 y2 y3 y4 y5 y6 c1
            go_wp2_with fail
            go_round
            case rel => exact ⟨k + 1, es, by go_num, by omega, by omega, hT9⟩
            case measure => simp [intOf]; omega
        · have e1 := htk.out.1
          have e2 := htk.out.2
          have hval : tickH n hh = (if 60 ≤ n - (3600 - hh.x.a) then none else some ⟨purgeX hh.x, 60 - (n - (3600 - hh.x.a))⟩, true) := by unfold tickH; rw [if_pos hA, if_neg hB1]
          rw [hval] at e1 e2
          simp only at e1 e2
          have e3 : Hid (es ++ [(q : Int)] = es ++ (if expH n (N q) = true then [(q : Int)] else [])) := by show _ = _; rw [e2]; simp
          have P0 := lpurge_any w2 _ hh.x (hla.keptMap hm.out hT0.gr).1
          unfold PurgePost purgeE purgeV at P0
          rw [vB_t hva, if_pos rfl, if_pos rfl] at P0
          have P : Calls Try.prog 54 #[laV hh.x.o hh.x.s hh.x.a hh.x.ov A2 hh.x.adj.length c2 B2 hh.x.pre.length d2] w2 (fun e w' => ∃ A3 c3 B3 d3, e = .returned (.tuple #[laV hh.x.o hh.x.s 3600 false A3 0 c3 B3 0 d3, .int .i64 0]) ∧ LaAt w (laV hh.x.o hh.x.s 3600 false A3 0 c3 B3 0 d3) (purgeX hh.x) ∧ Below w2.heap.size w2 w') := P0.mono (by
            rintro e w' ⟨v3, he, ⟨A3, c3, B3, d3, rfl, o1, o2, hu⟩, hb⟩
            obtain ⟨A8, c8, e8, _, l8, m8⟩ := own_rd o1
            obtain ⟨A9, c9, e9, _, l9, m9⟩ := own_rd o2
            injection e8 with e8 e8' e8''
            injection e9 with e9 e9' e9''
            subst e8 e8'' e9 e9''
            exact ⟨A3, c3, B3, d3, he, ⟨A3, c3, B3, d3, rfl, Rd.nil _ _, Rd.nil _ _, by simp [purgeX], m8, by simp [purgeX], m9, by simp [purgeX]⟩, hb⟩)
          clear P0
          replace P := Lib.hid P
          replace e1 := Lib.hid e1
          clear e2 hval htk hla
          obtain ⟨rest, hrest⟩ : ∃ z, n - (3600 - hh.x.a) = z := ⟨_, rfl⟩
          have hr0 : 0 ≤ rest := by omega
          have hr1 : rest ≤ 1000000 := by omega
          have a0 := hT0.bx.c 0 rfl
          have a1 := hT0.bx.c 1 rfl
          have a2 := hT0.bx.c 2 rfl
          have a3 := hT0.bx.c 3 rfl
          have a4 := hT0.bx.c 4 rfl
          have a5 := hT0.bx.c 5 rfl
          rw [hrest] at e1
          go_upto_region 14 with fail
          clear hrest
          go_wp2_with fail
          (with_reducible refine (P.out).mono ?_)
          rintro e w3 ⟨A3, c3, B3, d3, rfl, hl3, hb⟩
          replace hl3 := Lib.hid hl3
          have hT1 := hT0.below hb
          clear P a0 a1 a2 a3 a4 a5 hT0 hb
          have hT2 := ((((((hT1.set 0 (.int .i64 hh.x.o) (by simp) _ rfl).set 1 (.int .i64 hh.x.s) (by simp) _ rfl).set 2 (.int .i64 3600) (by simp) _ rfl).set 3 (.bool false) (by simp) _ rfl).set 4 (.slice A3 0 c3) (by simp) _ rfl).set 5 (.slice B3 0 d3) (by simp) [.int .i64 hh.x.o, .int .i64 hh.x.s, .int .i64 3600, .bool false, .slice A3 0 c3, .slice B3 0 d3, .int .i64 hh.l] rfl)
          have a0 := hT1.bx.c 0 rfl
          have a1 := hT1.bx.c 1 rfl
          have a2 := hT1.bx.c 2 rfl
          have a3 := hT1.bx.c 3 rfl
          have a4 := hT1.bx.c 4 rfl
          have a5 := hT1.bx.c 5 rfl
          have f0 := hT1.bx.f 0 rfl
          have f1 := hT1.bx.f 1 rfl
          have f2 := hT1.bx.f 2 rfl
          have f3 := hT1.bx.f 3 rfl
          have f4 := hT1.bx.f 4 rfl
          have f5 := hT1.bx.f 5 rfl
          go_upto_region 15 with fail
          clear a0 a1 a2 a3 a4 a5 f0 f1 f2 f3 f4 f5 hT1
          generalize World.setCell _ _ _ = w4 at *
          have a6 := hT2.bx.c 6 rfl
          have f6 := hT2.bx.f 6 rfl
          have hT3 := hT2.set 6 (.int .i64 60) (by simp) [.int .i64 hh.x.o, .int .i64 hh.x.s, .int .i64 3600, .bool false, .slice A3 0 c3, .slice B3 0 d3, .int .i64 60] rfl
          go_upto_region 16 with fail
          clear a6 f6 hT2
          generalize World.setCell _ _ _ = w5 at *
          have hT4 := hT3.below (below_new' w5 (.cells #[.int .i64 (q : Int)] 3))
          have rd0 := Rd.lit w5 #[.int .i64 (q : Int)] 3
          have o5 := hT4.o5
          have hsz4 := hT4.sz
          have hes64 : es.length ≤ 64 := by omega
          clear hT3
          by_cases hR : 60 ≤ rest
          · have e4 : Hid (ElAt w none (tickN n N q)) := by show ElAt _ _ _; rw [e1.out, if_pos hR]; trivial
            clear e1
            go_wp2_with (at_builtin; refine wpList_appB rfl intT (.tmp 64) (.tmp 66) rfl B rfl o5 (m := 1) rfl (by simp) rd0 (by simp [Value.oneCell']) (by simp only [maxLen]; omega) (by omega) hsz4 (es.length + 1) ((es ++ [(q : Int)]).map encZ) rfl (by simp) ?_; intro v6 w6 o6 hbel6 hg6 hv6; have hT5 := hT4.app (es' := es ++ [(q : Int)]) (by rw [List.length_append]; exact o6) hbel6 hg6 hv6; have a6 := hT5.bx.c 6 rfl; clear o6 hbel6 hg6 hv6; have c1 := hT5.c; obtain ⟨w9, run9, hm9, hg9⟩ := hT5.hm.run_del (i := (q : Int)) (wf64 (by omega) (by omega)) 0)
            obtain ⟨t1, t2, t3, t4, t5⟩ := hT5.fin hg9
            have hT9 := hnext.out w9 v6 (es ++ [(q : Int)]) (fun _ => none) hm9 (e4.out) t1 t2 t3 t4 (e3.out) t5
            replace hT9 := Lib.hid hT9
            clear hm9 hg9 t1 t2 t3 t4 t5
            go_wp2_with fail
            go_round
            case rel => exact ⟨k + 1, (es ++ [(q : Int)]), by go_num, by omega, by rw [List.length_append, List.length_singleton]; omega, hT9⟩
            case measure => simp [intOf]; omega
          · have e4 : Hid (ElAt w (some (.agg #[.int .i64 hh.x.o, .int .i64 hh.x.s, .int .i64 3600, .bool false, .slice A3 0 c3, .slice B3 0 d3, .int .i64 (60 - rest)])) (tickN n N q)) := by
              show ElAt _ _ _
              rw [e1.out, if_neg hR]
              exact ⟨A3, c3, B3, d3, rfl, hl3.out, fun h => absurd h (by simp [purgeX]), fun h => absurd h (by simp [purgeX])⟩
            clear e1
            go_wp2_with (at_builtin; refine wpList_appB rfl intT (.tmp 64) (.tmp 66) rfl B rfl o5 (m := 1) rfl (by simp) rd0 (by simp [Value.oneCell']) (by simp only [maxLen]; omega) (by omega) hsz4 (es.length + 1) ((es ++ [(q : Int)]).map encZ) rfl (by simp) ?_; intro v6 w6 o6 hbel6 hg6 hv6; have hT5 := hT4.app (es' := es ++ [(q : Int)]) (by rw [List.length_append]; exact o6) hbel6 hg6 hv6; have a6 := hT5.bx.c 6 rfl; clear o6 hbel6 hg6 hv6; have f6 := hT5.bx.f 6 rfl)
            have hT6 := hT5.set 6 (.int .i64 (60 - rest)) (by simp) [.int .i64 hh.x.o, .int .i64 hh.x.s, .int .i64 3600, .bool false, .slice A3 0 c3, .slice B3 0 d3, .int .i64 (60 - rest)] rfl
            clear a6 f6 hT5 hT4 o5 rd0
            generalize World.setCell _ _ _ = w7 at *
            have TD := hT6.drew
            have c1 := TD.c
            have y0 := TD.bx.c 0 rfl
            have y1 := TD.bx.c 1 rfl
            have y2 := TD.bx.c 2 rfl
            have y3 := TD.bx.c 3 rfl
            have y4 := TD.bx.c 4 rfl
            have y5 := TD.bx.c 5 rfl
            have y6 := TD.bx.c 6 rfl
            obtain ⟨w9, run9, hm9, hg9⟩ := TD.hm.run_put (i := (q : Int)) (by omega) (by omega) (.agg #[.int .i64 hh.x.o, .int .i64 hh.x.s, .int .i64 3600, .bool false, .slice A3 0 c3, .slice B3 0 d3, .int .i64 (60 - rest)])
            obtain ⟨t1, t2, t3, t4, t5⟩ := TD.fin hg9
            have hT9 := hnext.out w9 v6 (es ++ [(q : Int)]) (fun _ => some (.agg #[.int .i64 hh.x.o, .int .i64 hh.x.s, .int .i64 3600, .bool false, .slice A3 0 c3, .slice B3 0 d3, .int .i64 (60 - rest)])) hm9 (e4.out) t1 t2 t3 t4 (e3.out) t5
            replace hT9 := Lib.hid hT9
            clear hm9 hg9 t1 t2 t3 t4 t5 TD hT6
            go_region_law (fail)
            all_goals
              clear run9 y0 y1 y2 y3 y4 y5 y6 c1
              go_wp2_with fail
              go_round
              case rel => exact ⟨k + 1, (es ++ [(q : Int)]), by go_num, by omega, by rw [List.length_append, List.length_singleton]; omega, hT9⟩
              case measure => simp [intOf]; omega
      · have hval : tickH n hh = (if hh.l ≤ n then none else some ⟨hh.x, hh.l - n⟩, false) := by unfold tickH; rw [if_neg hA]
        have e1 := htk.out.1
        have e2 := htk.out.2
        rw [hval] at e1 e2
        simp only at e1 e2
        have e3 : Hid (es = es ++ (if expH n (N q) = true then [(q : Int)] else [])) := by show _ = _; rw [e2]; simp
        have a2 := hT0.bx.c 2 rfl
        have a6 := hT0.bx.c 6 rfl
        by_cases hR : hh.l ≤ n
        · have e4 : Hid (ElAt w none (tickN n N q)) := by show ElAt _ _ _; rw [e1, if_pos hR]; trivial
          clear e1 e2 hval htk hla
          obtain ⟨w9, run9, hm9, hg9⟩ := hT0.hm.run_del (i := (q : Int)) (wf64 (by omega) (by omega)) 0
          obtain ⟨t1, t2, t3, t4, t5⟩ := hT0.fin hg9
          have hT9 := hnext.out w9 u5 es (fun _ => none) hm9 (e4.out) t1 t2 t3 t4 (e3.out) t5
          replace hT9 := Lib.hid hT9
          have c1 := hT0.c
          clear hm9 hg9 t1 t2 t3 t4 t5
          go_wp2_with fail
          go_round
          case rel => exact ⟨k + 1, es, by go_num, by omega, by omega, hT9⟩
          case measure => simp [intOf]; omega
        · have e4 : Hid (ElAt w (some (.agg #[.int .i64 hh.x.o, .int .i64 hh.x.s, .int .i64 hh.x.a, .bool hh.x.ov, .slice A2 hh.x.adj.length c2, .slice B2 hh.x.pre.length d2, .int .i64 (hh.l - n)])) (tickN n N q)) := by
            show ElAt _ _ _
            rw [e1, if_neg hR]
            exact ⟨A2, c2, B2, d2, rfl, hla⟩
          clear e1 e2 hval htk hla
          have f6 := hT0.bx.f 6 rfl
          have hT1 := hT0.set 6 (.int .i64 (hh.l - n)) (by simp) [.int .i64 hh.x.o, .int .i64 hh.x.s, .int .i64 hh.x.a, .bool hh.x.ov, .slice A2 hh.x.adj.length c2, .slice B2 hh.x.pre.length d2, .int .i64 (hh.l - n)] rfl
          go_upto_region 20 with fail
          clear a2 a6 f6 hT0
          generalize World.setCell _ _ _ = w3 at *
          have TD := hT1.drew
          have c1 := TD.c
          have y0 := TD.bx.c 0 rfl
          have y1 := TD.bx.c 1 rfl
          have y2 := TD.bx.c 2 rfl
          have y3 := TD.bx.c 3 rfl
          have y4 := TD.bx.c 4 rfl
          have y5 := TD.bx.c 5 rfl
          have y6 := TD.bx.c 6 rfl
          obtain ⟨w9, run9, hm9, hg9⟩ := TD.hm.run_put (i := (q : Int)) (by omega) (by omega) (.agg #[.int .i64 hh.x.o, .int .i64 hh.x.s, .int .i64 hh.x.a, .bool hh.x.ov, .slice A2 hh.x.adj.length c2, .slice B2 hh.x.pre.length d2, .int .i64 (hh.l - n)])
          obtain ⟨t1, t2, t3, t4, t5⟩ := TD.fin hg9
          have hT9 := hnext.out w9 u5 es (fun _ => some (.agg #[.int .i64 hh.x.o, .int .i64 hh.x.s, .int .i64 hh.x.a, .bool hh.x.ov, .slice A2 hh.x.adj.length c2, .slice B2 hh.x.pre.length d2, .int .i64 (hh.l - n)])) hm9 (e4.out) t1 t2 t3 t4 (e3.out) t5
          replace hT9 := Lib.hid hT9
          clear hm9 hg9 t1 t2 t3 t4 t5 TD hT1
          go_region_law (fail)
          all_goals
            clear run9 y0 y1 y2 y3 y4 y5 y6 c1
            go_wp2_with fail
            go_round
            case rel => exact ⟨k + 1, es, by go_num, by omega, by omega, hT9⟩
            case measure => simp [intOf]; omega
    · obtain rfl : k = len := by omega
      have hf := hfin.out _ _ _ _ _ hw1 hT.out
      replace hf := Lib.hid hf
      clear hT
      go_wp2_with fail
      go_ret
      exact hf.out

end Go.Proofs.Ytkmpmgojgidcgaa

namespace Go.Proofs.Ytkmpmgojgidcgaa
set_option linter.unusedVariables false
open Go.RowKit Go.Maps Go.Sort

set_option maxRecDepth 100000 in
set_option maxHeartbeats 800000 in
theorem dinstall_nil (w : World) (v : Value) (x : La) (h : LaAt w v x) : Calls Try.prog 14 #[.pointer none, v] w fun e w' => e = .returned (.tuple #[.int .i64 0, .int .i64 7]) ∧ Below w.heap.size w w' := by
  obtain ⟨A, c, B, d, rfl⟩ := h.form
  have hb := below_new' w (.cells #[.int .i64 x.o, .int .i64 x.s, .int .i64 x.a, .bool x.ov, .slice A x.adj.length c, .slice B x.pre.length d] 30)
  go_enter Try.func14, Try.ntmps14
  go_wp2_with fail
  go_ret2
  exact ⟨rfl, hb⟩

set_option maxRecDepth 100000 in
set_option maxHeartbeats 800000 in
theorem dget_nil (w : World) (i : Int) : Calls Try.prog 15 #[.pointer none, .int .i64 i] w fun e w' => e = .returned (.tuple #[laV 0 0 0 false none 0 0 none 0 0, .bool false]) ∧ Below w.heap.size w w' := by
  have S := (St.start w).new' #[.int .i64 0, .int .i64 0, .int .i64 0, .bool false, .slice none 0 0, .slice none 0 0] 30 w.heap.size _ rfl rfl
  have r0 := S.c 0 0 rfl rfl
  have r1 := S.c 0 1 rfl rfl
  have r2 := S.c 0 2 rfl rfl
  have r3 := S.c 0 3 rfl rfl
  have r4 := S.c 0 4 rfl rfl
  have r5 := S.c 0 5 rfl rfl
  have f0 := S.f 0 0 rfl rfl
  have f1 := S.f 0 1 rfl rfl
  have f2 := S.f 0 2 rfl rfl
  have f3 := S.f 0 3 rfl rfl
  have f4 := S.f 0 4 rfl rfl
  have f5 := S.f 0 5 rfl rfl
  have hb := S.b
  go_enter Try.func15, Try.ntmps15
  go_wp2_with fail
  exact bodyPost_ret (v := .tuple #[laV 0 0 0 false none 0 0 none 0 0, .bool false]) (by simp [results, Try.results15, go_sem, r0, r1, r2, r3, r4, r5]) rfl ⟨rfl, hb⟩

set_option maxRecDepth 100000 in
set_option maxHeartbeats 800000 in
theorem dorigins_nil (w : World) : Calls Try.prog 43 #[.pointer none] w fun e w' => e = .returned (.slice none 0 0) ∧ w = w' := by
  go_enter Try.func43, Try.ntmps43
  go_wp2_with fail
  go_ret
  exact ⟨rfl, rfl⟩

set_option maxRecDepth 100000 in
set_option maxHeartbeats 1600000 in
theorem dtick_nil (w : World) : Calls Try.prog 32 #[.pointer none, .int .i64 1] w fun e w' => e = .returned (.slice none 0 0) ∧ Below w.heap.size w w' := by
  have hb := Below.refl w.heap.size w
  go_enter Try.func32, Try.ntmps32
  go_wp2_with fail
  (with_reducible refine (dorigins_nil _).mono ?_)
  rintro e w1 ⟨rfl, rfl⟩
  go_wp2_with fail
  go_loopw [5, 16] (fun v5 v16 wr => v5 = .slice none 0 0 ∧ v16 = .int .i64 0 ∧ wr = w) (fun _ _ _ => 0)
  case atStart => exact ⟨rfl, rfl, rfl⟩
  case round =>
    obtain ⟨rfl, rfl, rfl⟩ := hrel
    go_wp2_with fail
    go_ret
    exact ⟨rfl, hb⟩

set_option maxRecDepth 100000 in
set_option maxHeartbeats 1600000 in
theorem dall_nil (w : World) : Calls Try.prog 21 #[.pointer none] w fun e w' => e = .returned (.slice none 0 0) ∧ Below w.heap.size w w' := by
  have hb := Below.refl w.heap.size w
  go_enter Try.func21, Try.ntmps21
  go_wp2_with fail
  (with_reducible refine (dorigins_nil _).mono ?_)
  rintro e w1 ⟨rfl, rfl⟩
  go_wp2_with fail
  go_loopw [3, 9] (fun v5 v16 wr => v5 = .slice none 0 0 ∧ v16 = .int .i64 0 ∧ wr = w) (fun _ _ _ => 0)
  case atStart => exact ⟨rfl, rfl, rfl⟩
  case round =>
    obtain ⟨rfl, rfl, rfl⟩ := hrel
    go_wp2_with fail
    go_ret
    exact ⟨rfl, hb⟩

set_option maxRecDepth 100000 in
set_option maxHeartbeats 1600000 in
theorem ddigest_nil (w : World) : Calls Try.prog 23 #[.pointer none] w fun e w' => e = .returned (.slice none 0 0) ∧ Below w.heap.size w w' := by
  have hb := Below.refl w.heap.size w
  go_enter Try.func23, Try.ntmps23
  go_wp2_with fail
  (with_reducible refine (dorigins_nil _).mono ?_)
  rintro e w1 ⟨rfl, rfl⟩
  go_wp2_with fail
  go_loopw [3, 10] (fun v5 v16 wr => v5 = .slice none 0 0 ∧ v16 = .int .i64 0 ∧ wr = w) (fun _ _ _ => 0)
  case atStart => exact ⟨rfl, rfl, rfl⟩
  case round =>
    obtain ⟨rfl, rfl, rfl⟩ := hrel
    go_wp2_with fail
    go_ret
    exact ⟨rfl, hb⟩

end Go.Proofs.Ytkmpmgojgidcgaa

namespace Go.Proofs.Ytkmpmgojgidcgaa
set_option linter.unusedVariables false
open Go.RowKit Go.Maps Go.Sort

theorem below_via {B : Nat} {w0 w w' : World} {g : Nat} (h : Below B w0 w) (hg : w.grownBy w' (some g)) (hB : B ≤ g) (hs : B ≤ w.heap.size) : Below B w0 w' := h.grown hg hs (fun k hk => by injection hk with hk; omega)
theorem equB_refl' (x : La) : equB x x = true := by simp [equB, sameB, conB]
/-- An advertisement without adjacencies and prefixes. -/
def bare (o s a : Int) (ov : Bool) : La := ⟨o, s, a, ov, [], []⟩
theorem bare_at (w : World) (o s a : Int) (ov : Bool) : LaAt w (laV o s a ov none 0 0 none 0 0) (bare o s a ov) := ⟨none, 0, none, 0, rfl, Rd.nil _ _, Rd.nil _ _, by simp [bare], by simp [maxLen], by simp [bare], by simp [maxLen], by simp [bare]⟩
theorem bare_valid (o s a : Int) (ov : Bool) (h0 : 0 ≤ o) (h1 : o ≤ 63) (h2 : 1 ≤ s) (h3 : s ≤ 1073741824) (h4 : 0 ≤ a) (h5 : a < 3600) : LaValid (bare o s a ov) := by
  refine ⟨⟨h0, h1⟩, ⟨h2, h3⟩, ⟨h4, by simp only [bare]; omega⟩, by simp [bare], by simp [bare], fun h => by simp only [bare] at h; omega, fun k x hk => by simp [bare] at hk, fun k x hk => by simp [bare] at hk⟩
theorem bare_purge (o s : Int) (h0 : 0 ≤ o) (h1 : o ≤ 63) (h2 : 1 ≤ s) (h3 : s ≤ 1073741824) : LaValid (bare o s 3600 false) := by
  refine ⟨⟨h0, h1⟩, ⟨h2, h3⟩, by simp [bare], by simp [bare], by simp [bare], fun h => by simp [bare], fun k x hk => by simp [bare] at hk, fun k x hk => by simp [bare] at hk⟩
theorem newI_s {x y : La} (hx : LaValid x) (hy : LaValid y) (h : x.s ≠ y.s) : newI x y = cmpI x.s y.s := by
  unfold newI
  rw [vB_t hx, vB_t hy, if_pos ⟨rfl, rfl⟩, if_neg h]

def one (x : La) (l : Int) : Db := fun i => if i = 2 then some ⟨x, l⟩ else none
theorem orgs_one (x : La) (l : Int) : orgs (one x l) = [2] := by rfl
theorem one_ok {x : La} {l : Int} (hx : LaValid x) (ho : x.o = 2) (h1 : 1 ≤ l) (h2 : l ≤ 60) : DbOk (one x l) := by
  intro i h e
  unfold one at e
  split at e
  · injection e with e; subst e; rename_i hi; subst hi
    exact ⟨hx, ho, h1, h2⟩
  · cases e
theorem one_small (x : La) (l : Int) : ∀ i, 64 ≤ i → one x l i = none := fun i hi => by unfold one; rw [if_neg (by omega)]
theorem v4 : LaValid (bare 2 4 0 false) := bare_valid 2 4 0 false (by omega) (by omega) (by omega) (by omega) (by omega) (by omega)
theorem v3 : LaValid (bare 2 3 0 false) := bare_valid 2 3 0 false (by omega) (by omega) (by omega) (by omega) (by omega) (by omega)
theorem v5 : LaValid (bare 2 5 0 false) := bare_valid 2 5 0 false (by omega) (by omega) (by omega) (by omega) (by omega) (by omega)
theorem v6 : LaValid (bare 2 5 3600 false) := bare_purge 2 5 (by omega) (by omega) (by omega) (by omega)
theorem n34 : newI (bare 2 3 0 false) (bare 2 4 0 false) = -1 := by rw [newI_s v3 v4 (by simp [bare])]; simp [bare, cmpI]
theorem n54 : newI (bare 2 5 0 false) (bare 2 4 0 false) = 1 := by rw [newI_s v5 v4 (by simp [bare])]; simp [bare, cmpI]
theorem aw_r1 : instR (fun _ => none) (bare 2 4 0 false) = 1 := by unfold instR; rw [vB_t v4, if_pos rfl]
theorem aw_r2 : instR (one (bare 2 4 0 false) 60) (bare 2 3 0 false) = 3 := by
  unfold instR; rw [vB_t v3, if_pos rfl, show one (bare 2 4 0 false) 60 (bare 2 3 0 false).o.toNat = some ⟨bare 2 4 0 false, 60⟩ from rfl]
  simp only [n34]; simp
theorem aw_r3 : instR (one (bare 2 4 0 false) 60) (bare 2 5 0 false) = 1 := by
  unfold instR; rw [vB_t v5, if_pos rfl, show one (bare 2 4 0 false) 60 (bare 2 5 0 false).o.toNat = some ⟨bare 2 4 0 false, 60⟩ from rfl]
  simp only [n54]; simp
theorem aw_e {x : La} (h : LaValid x) : instE x = 0 := by unfold instE; rw [vB_t h, if_pos rfl]
theorem aw_n1 : instN (fun _ => none) (bare 2 4 0 false) = one (bare 2 4 0 false) 60 := by
  unfold instN; rw [aw_r1, vB_t v4, if_pos ⟨rfl, rfl⟩]; funext i; unfold one; rfl
theorem aw_n2 : instN (one (bare 2 4 0 false) 60) (bare 2 3 0 false) = one (bare 2 4 0 false) 60 := by
  unfold instN; rw [aw_r2, if_neg (by omega)]
theorem aw_n3 : instN (one (bare 2 4 0 false) 60) (bare 2 5 0 false) = one (bare 2 5 0 false) 60 := by
  unfold instN; rw [aw_r3, vB_t v5, if_pos ⟨rfl, rfl⟩]; funext i
  by_cases h : i = 2
  · subst h; rfl
  · unfold one
    rw [if_neg h, if_neg (by show ¬ i = 2; exact h), if_neg h]
theorem aw_t1 : tickN 3600 (one (bare 2 5 0 false) 60) = one (bare 2 5 3600 false) 60 := by
  funext i
  by_cases h : i = 2
  · subst h; simp [tickN, one, tickH, bare, purgeX]
  · simp [tickN, one, h]
theorem aw_l1 : tickL 3600 (one (bare 2 5 0 false) 60) = [2] := by
  unfold tickL; rw [orgs_one]; simp [expH, one, tickH, bare]
theorem aw_t2 : tickN 60 (one (bare 2 5 3600 false) 60) = fun _ => none := by
  funext i
  by_cases h : i = 2
  · subst h; simp [tickN, one, tickH, bare]
  · simp [tickN, one, h]
theorem aw_l2 : tickL 60 (one (bare 2 5 3600 false) 60) = [] := by
  unfold tickL; rw [orgs_one]; simp [expH, one, tickH, bare]

end Go.Proofs.Ytkmpmgojgidcgaa

namespace Go.Proofs.Ytkmpmgojgidcgaa
set_option linter.unusedVariables false
open Go.RowKit Go.Maps Go.Sort

set_option maxRecDepth 100000 in
set_option maxHeartbeats 6400000 in
theorem awake_any (w : World) : Calls Try.prog 10 #[] w fun e w' => e = .returned (.bool true) ∧ Below w.heap.size w w' := by
  go_enter Try.func10, Try.ntmps10
  go_wp2_with fail
  (with_reducible refine (dnew_any _).mono ?_)
  rintro e w1 ⟨rfl, D, B⟩
  have I := dinstall_any w1 _ _ _ _ (bare 2 4 0 false) D (bare_at w1 2 4 0 false)
  unfold InstPost at I
  rw [aw_r1, aw_e v4, aw_n1] at I
  replace I := Lib.hid I
  clear D
  go_wp2_with fail
  (with_reducible refine (I.out).mono ?_)
  rintro e w2 ⟨rfl, D, hg⟩
  clear I
  replace B := below_via B hg (Nat.le_refl _) B.size
  have I := dinstall_any w2 _ _ _ _ (bare 2 3 0 false) D (bare_at w2 2 3 0 false)
  unfold InstPost at I
  rw [aw_r2, aw_e v3, aw_n2] at I
  replace I := Lib.hid I
  clear D hg
  go_wp2_with fail
  (with_reducible refine (I.out).mono ?_)
  rintro e w3 ⟨rfl, D, hg⟩
  clear I
  replace B := below_via B hg (Nat.le_refl _) B.size
  have I := dinstall_any w3 _ _ _ _ (bare 2 5 0 false) D (bare_at w3 2 5 0 false)
  unfold InstPost at I
  rw [aw_r3, aw_e v5, aw_n3] at I
  replace I := Lib.hid I
  clear D hg
  go_wp2_with fail
  (with_reducible refine (I.out).mono ?_)
  rintro e w4 ⟨rfl, D, hg⟩
  clear I
  replace B := below_via B hg (Nat.le_refl _) B.size
  have I := dtick_any w4 _ _ _ 3600 D (one_ok v5 rfl (by omega) (by omega)) (one_small _ _) (by omega) (by omega)
  unfold DTickPost at I
  rw [aw_t1, aw_l1] at I
  replace I := Lib.hid I
  clear D hg
  go_wp2_with fail
  (with_reducible refine (I.out).mono ?_)
  rintro e w5 ⟨v5, rfl, o5, D, hg⟩
  clear I
  replace B := below_via B hg (Nat.le_refl _) B.size
  obtain ⟨g5, c5, hv5, r5⟩ : ∃ g5 c5, v5 = .slice (some ⟨g5, 0, none⟩) 1 c5 ∧ Rd w5 (some ⟨g5, 0, none⟩) [.int .i64 2] := by
    obtain ⟨A, c, e, r, _⟩ := own_rd o5
    rcases o5.2 with ⟨e1, h0⟩ | ⟨g, cap, cur, e1, _⟩
    · simp at h0
    · rw [e] at e1
      injection e1 with e1 e2 e3
      exact ⟨g, c, by rw [e, e1]; rfl, by rw [← e1]; exact r⟩
  subst hv5
  clear o5
  have I := dget_any w5 _ _ _ 2 (by decide) D (one_ok v6 rfl (by omega) (by omega) : DbOk (one (bare 2 5 3600 false) 60)).few
  rw [show getO (one (bare 2 5 3600 false) 60) 2 = some ⟨bare 2 5 3600 false, 60⟩ from rfl] at I
  unfold GetPost at I
  rw [show getX (some ⟨bare 2 5 3600 false, 60⟩) = bare 2 5 3600 false from rfl] at I
  rw [show (some (⟨bare 2 5 3600 false, 60⟩ : Hd)).isSome = true from rfl] at I
  replace I := Lib.hid I
  clear hg
  go_wp2_with fail
  (with_reducible refine (I.out).mono ?_)
  rintro e w6 ⟨v6, rfl, hown, hb⟩
  clear I
  obtain ⟨A7, c7, B7, d7, hv7, hL7⟩ := hown.open
  have hv8 : v6 = laV 2 5 3600 false A7 0 c7 B7 0 d7 := hv7
  clear hv7
  subst hv8
  have hbb := below_new' w6 (.cells #[.int .i64 2, .int .i64 5, .int .i64 3600, .bool false, .slice A7 0 c7, .slice B7 0 d7] 30)
  have h7 := hL7.out _ hbb
  have X := Rd.lit w6 #[.int .i64 2, .int .i64 5, .int .i64 3600, .bool false, .slice A7 0 c7, .slice B7 0 d7] 30
  have R := (r5.below hb).below hbb
  replace D := (D.below hb).below hbb
  replace B := (B.trans (hb.mono B.size)).trans (hbb.mono (Nat.le_trans B.size hb.size))
  clear r5 hL7 hown hb hbb
  replace h7 := Lib.hid h7
  replace X := Lib.hid X
  replace R := Lib.hid R
  replace D := Lib.hid D
  replace B := Lib.hid B
  go_wp2_with fail
  generalize World.alloc w6 _ = w7 at *
  obtain ⟨⟨M7, hm7, _⟩, _⟩ := id D.out
  replace hm7 := Lib.hid hm7
  have I := dtick_any w7 _ _ _ 60 D.out (one_ok v6 rfl (by omega) (by omega)) (one_small _ _) (by omega) (by omega)
  unfold DTickPost at I
  rw [aw_t2, aw_l2] at I
  replace I := Lib.hid I
  clear D
  (with_reducible refine (I.out).mono ?_)
  rintro e w8 ⟨u8, rfl, o8, D, hg⟩
  clear I
  have B8 := below_via B.out hg (Nat.le_refl _) B.out.size
  clear B
  obtain ⟨A8, c8, hv8, _⟩ := own_rd o8
  rw [show ([] : List Int).length = 0 from rfl] at hv8
  subst hv8
  clear o8
  replace X := X.out.keptMap hm7.out hg
  replace R := R.out.keptMap hm7.out hg
  replace h7 := h7.out.keptMap hm7.out hg
  clear hm7 hg
  have I := dget_any w8 _ _ _ 2 (by decide) D (fun i h e => nomatch e)
  rw [show getO (fun _ => none) 2 = none from rfl] at I
  unfold GetPost at I
  rw [show (none : Option Hd).isSome = false from rfl] at I
  replace I := Lib.hid I
  clear D
  go_wp2_with fail
  (with_reducible refine (I.out).mono ?_)
  rintro e w9 ⟨v9, rfl, hown, hb⟩
  clear I
  obtain ⟨A9, c9, C9, d9, hv9, _⟩ := hown.open
  have hv8 : v9 = laV 0 0 0 false A9 0 c9 C9 0 d9 := hv9
  clear hv9 hown
  subst hv8
  have hbb := below_new' w9 (.cells #[.int .i64 0, .int .i64 0, .int .i64 0, .bool false, .slice A9 0 c9, .slice C9 0 d9] 30)
  replace X := (X.below hb).below hbb
  replace R := (R.below hb).below hbb
  replace h7 := (h7.below hb).below hbb
  have B9 := (B8.trans (hb.mono B8.size)).trans (hbb.mono (Nat.le_trans B8.size hb.size))
  clear B8 hb hbb
  have a0 := X.at 0 rfl
  have a1 := X.at 1 rfl
  have a2 := X.at 2 rfl
  have a3 := X.at 3 rfl
  have a4 := X.at 4 rfl
  have a5 := X.at 5 rfl
  have a6 := R.at 0 rfl
  have h7q : LaAt _ (laV 2 5 3600 false A7 0 c7 B7 0 d7) (bare 2 5 3600 false) := h7
  have EQ := equal_any _ _ _ (bare 2 5 3600 false) (bare 2 5 3600 false) h7q (bare_at _ 2 5 3600 false)
  rw [equB_refl'] at EQ
  replace EQ := Lib.hid EQ
  replace B9 := Lib.hid B9
  clear X R h7 h7q
  go_wp2_with fail
  (with_reducible refine (EQ.out).mono ?_)
  rintro e w10 ⟨rfl, hb⟩
  go_wp2_with fail
  go_ret
  exact ⟨rfl, B9.out.trans (hb.mono B9.out.size)⟩

end Go.Proofs.Ytkmpmgojgidcgaa

namespace Go.Proofs.Ytkmpmgojgidcgaa
set_option linter.unusedVariables false
open Go.RowKit

theorem fewB_t {x : La} (h : fewB x = true) : x.adj.length ≤ 300 ∧ x.pre.length ≤ 100 := by simpa [fewB] using h

theorem cmpI_neg (a b : Int) : cmpI b a = - cmpI a b := by unfold cmpI; split <;> split <;> (try split) <;> omega
theorem cmpI_bd (a b : Int) : cmpI a b = -1 ∧ a < b ∨ cmpI a b = 0 ∧ a = b ∨ cmpI a b = 1 ∧ b < a := by unfold cmpI; split <;> (try split) <;> omega
theorem cmpB_neg : ∀ (a b : List UInt8), Lib.compareBytes b a = - Lib.compareBytes a b
  | [], [] => rfl
  | [], _ :: _ => rfl
  | _ :: _, [] => rfl
  | x :: a, y :: b => by
    unfold Lib.compareBytes
    by_cases h1 : x < y
    · have h2 : ¬ y < x := fun h => absurd (UInt8.lt_trans h1 h) (UInt8.lt_irrefl _)
      simp [h1, h2]
    · by_cases h2 : y < x
      · simp [h1, h2]
      · simp [h1, h2, cmpB_neg a b]
theorem cmpB_trans : ∀ (a b c : List UInt8), 0 ≤ Lib.compareBytes a b → 0 ≤ Lib.compareBytes b c → 0 ≤ Lib.compareBytes a c
  | [], [], [] => by simp [Lib.compareBytes]
  | [], [], _ :: _ => by simp [Lib.compareBytes]
  | [], _ :: _, _ => by simp [Lib.compareBytes]
  | _ :: _, _, [] => by simp [Lib.compareBytes]
  | _ :: _, [], _ :: _ => by simp [Lib.compareBytes]
  | x :: a, y :: b, z :: c => by
    have ih := cmpB_trans a b c
    intro h1 h2
    unfold Lib.compareBytes at h1 h2 ⊢
    by_cases e1 : x < y
    · simp [e1] at h1
    · by_cases e2 : y < z
      · simp [e2] at h2
      · have e3 : ¬ x < z := fun h => by
          rw [UInt8.lt_iff_toNat_lt] at *; omega
        by_cases e4 : z < x
        · simp [e3, e4]
        · have e5 : ¬ y < x := fun h => by rw [UInt8.lt_iff_toNat_lt] at *; omega
          have e6 : ¬ z < y := fun h => by rw [UInt8.lt_iff_toNat_lt] at *; omega
          simp only [e1, e2, e3, e4, e5, e6, if_false] at h1 h2 ⊢
          exact ih h1 h2
theorem newI_v {x y : La} (hx : LaValid x) (hy : LaValid y) : newI x y = if x.s = y.s then (if (x.a == 3600) = (y.a == 3600) then Lib.compareBytes (laEnc (age0 x)) (laEnc (age0 y)) else if (x.a == 3600) = true then 1 else -1) else cmpI x.s y.s := by
  unfold newI
  rw [vB_t hx, vB_t hy]
  exact if_pos ⟨rfl, rfl⟩
/-- The number, whether it is a purge, the bytes. -/
def KeyGe (x y : La) : Prop := y.s < x.s ∨ x.s = y.s ∧ (x.a = 3600 ∧ y.a ≠ 3600 ∨ ((x.a == 3600) = (y.a == 3600)) ∧ 0 ≤ Lib.compareBytes (laEnc (age0 x)) (laEnc (age0 y)))
theorem newI_neg {x y : La} (hx : LaValid x) (hy : LaValid y) : newI y x = - newI x y := by
  rw [newI_v hx hy, newI_v hy hx]
  by_cases h : x.s = y.s
  · rw [if_pos h, if_pos h.symm]
    by_cases h2 : (x.a == 3600) = (y.a == 3600)
    · rw [if_pos h2, if_pos h2.symm]; exact cmpB_neg _ _
    · rw [if_neg h2, if_neg (fun e => h2 e.symm)]
      rcases e1 : (x.a == 3600) with _ | _ <;> rcases e2 : (y.a == 3600) with _ | _
      · rw [e1, e2] at h2; exact absurd rfl h2
      · simp
      · simp
      · rw [e1, e2] at h2; exact absurd rfl h2
  · rw [if_neg h, if_neg (fun e => h e.symm)]; exact cmpI_neg _ _
theorem newI_bd {x y : La} (hx : LaValid x) (hy : LaValid y) : -1 ≤ newI x y ∧ newI x y ≤ 1 := by
  unfold newI
  rw [vB_t hx, vB_t hy, if_pos ⟨rfl, rfl⟩]
  have h1 := cmp_bd (laEnc (age0 x)) (laEnc (age0 y))
  have h2 := cmpI_bd x.s y.s
  split
  · split
    · omega
    · split <;> omega
  · omega
theorem newI_ge {x y : La} (hx : LaValid x) (hy : LaValid y) : 0 ≤ newI x y ↔ KeyGe x y := by
  unfold newI KeyGe
  rw [vB_t hx, vB_t hy, if_pos ⟨rfl, rfl⟩]
  by_cases h : x.s = y.s
  · rw [if_pos h]
    by_cases h2 : (x.a == 3600) = (y.a == 3600)
    · rw [if_pos h2]
      constructor
      · intro h3; exact .inr ⟨h, .inr ⟨h2, h3⟩⟩
      · rintro (h3 | ⟨_, ⟨h3, h4⟩ | ⟨_, h3⟩⟩)
        · omega
        · rw [h3] at h2; simp at h2; exact absurd h2 h4
        · exact h3
    · rw [if_neg h2]
      rcases e1 : (x.a == 3600) with _ | _ <;> rcases e2 : (y.a == 3600) with _ | _
      · rw [e1, e2] at h2; exact absurd rfl h2
      · simp only [beq_eq_false_iff_ne, beq_iff_eq] at e1 e2
        constructor
        · intro h3; simp at h3
        · rintro (h3 | ⟨_, ⟨h3, h4⟩ | ⟨h3, _⟩⟩)
          · omega
          · exact absurd h3 e1
          · cases h3
      · simp only [beq_eq_false_iff_ne, beq_iff_eq] at e1 e2
        constructor
        · intro _; exact .inr ⟨h, .inl ⟨e1, e2⟩⟩
        · intro _; simp
      · rw [e1, e2] at h2; exact absurd rfl h2
  · rw [if_neg h]
    have := cmpI_bd x.s y.s
    constructor
    · intro h3; left; omega
    · rintro (h3 | ⟨h3, _⟩)
      · omega
      · exact absurd h3 h
theorem KeyGe.trans {x y z : La} (h1 : KeyGe x y) (h2 : KeyGe y z) : KeyGe x z := by
  unfold KeyGe at *
  rcases h1 with h1 | ⟨e1, h1⟩
  · rcases h2 with h2 | ⟨e2, _⟩
    · left; omega
    · left; omega
  · rcases h2 with h2 | ⟨e2, h2⟩
    · left; omega
    · right
      refine ⟨by omega, ?_⟩
      rcases h1 with ⟨a1, b1⟩ | ⟨a1, b1⟩
      · rcases h2 with ⟨a2, b2⟩ | ⟨a2, b2⟩
        · exact absurd a2 b1
        · left
          refine ⟨a1, fun h => b1 ?_⟩
          rw [h] at a2; simpa using a2
      · rcases h2 with ⟨a2, b2⟩ | ⟨a2, b2⟩
        · left
          refine ⟨?_, b2⟩
          rw [a2] at a1; simpa using a1
        · right
          exact ⟨a1.trans a2, cmpB_trans _ _ _ b1 b2⟩
/-- 0 exactly for advertisements of the same contents. -/
theorem newI_zero {x y : La} (hx : LaOk x) (hy : LaOk y) : (newI x y == 0) = sameB x y := by
  have hz : newI x y = 0 ↔ sameB x y = true := by
    unfold newI
    rw [vB_t hx.1, vB_t hy.1, if_pos ⟨rfl, rfl⟩]
    have hinj : laEnc (age0 x) = laEnc (age0 y) ↔ age0 x = age0 y := ⟨fun h => laEnc_inj ⟨age0_valid hx.1, hx.2⟩ ⟨age0_valid hy.1, hy.2⟩ h, fun h => by rw [h]⟩
    have hs := cmpI_bd x.s y.s
    simp only [sameB, conB, Bool.and_eq_true, beq_iff_eq, decide_eq_true_iff]
    by_cases h : x.s = y.s
    · rw [if_pos h]
      by_cases h2 : (x.a == 3600) = (y.a == 3600)
      · rw [if_pos h2, cmp_eq0, hinj]
        obtain ⟨o, s, a, ov, adj, pre⟩ := x
        obtain ⟨o', s', a', ov', adj', pre'⟩ := y
        simp only [age0, La.mk.injEq, true_and]
        constructor
        · rintro ⟨rfl, rfl, rfl, rfl, rfl⟩; exact ⟨rfl, rfl, h2, rfl, rfl, rfl⟩
        · rintro ⟨rfl, rfl, _, rfl, rfl, rfl⟩; exact ⟨rfl, rfl, rfl, rfl, rfl⟩
      · rw [if_neg h2]
        constructor
        · intro h3; split at h3 <;> omega
        · rintro ⟨_, _, h3, _⟩; exact absurd h3 h2
    · rw [if_neg h]
      constructor
      · intro h3; omega
      · rintro ⟨_, h3, _⟩; exact absurd h3 h
  rw [Bool.eq_iff_iff, beq_iff_eq]; exact hz
/-- Transitivity, as the law says it. -/
theorem newI_tr {x y z : La} (hx : LaValid x) (hy : LaValid y) (hz : LaValid z) (h1 : 0 ≤ newI x y) (h2 : 0 ≤ newI y z) : 0 ≤ newI x z ∧ (newI x y + newI y z = 0 ↔ newI x z = 0) := by
  have h3 := (newI_ge hx hz).2 (((newI_ge hx hy).1 h1).trans ((newI_ge hy hz).1 h2))
  refine ⟨h3, fun h => ?_, fun h => ?_⟩
  · have e1 : newI y x = 0 := by rw [newI_neg hx hy]; omega
    have e2 : newI z y = 0 := by rw [newI_neg hy hz]; omega
    have h4 := (newI_ge hz hx).2 (((newI_ge hz hy).1 (by omega)).trans ((newI_ge hy hx).1 (by omega)))
    rw [newI_neg hx hz] at h4
    omega
  · have e3 : newI z x = 0 := by rw [newI_neg hx hz]; omega
    have a1 := (newI_ge hz hy).2 (((newI_ge hz hx).1 (by omega)).trans ((newI_ge hx hy).1 h1))
    have a2 := (newI_ge hy hx).2 (((newI_ge hy hz).1 h2).trans ((newI_ge hz hx).1 (by omega)))
    rw [newI_neg hy hz] at a1
    rw [newI_neg hx hy] at a2
    omega
theorem newI_tr2 {x y z : La} (hx : LaValid x) (hy : LaValid y) (hz : LaValid z) (h1 : newI x y ≤ 0) (h2 : newI y z ≤ 0) (h : newI x y < 0 ∨ newI y z < 0) : newI x z < 0 := by
  have e1 := newI_neg hx hy
  have e2 := newI_neg hy hz
  have e3 := newI_neg hx hz
  obtain ⟨h3, h4⟩ := newI_tr hz hy hx (by omega) (by omega)
  have : ¬ newI z x = 0 := fun e => by have := h4.2 e; omega
  omega

end Go.Proofs.Ytkmpmgojgidcgaa

namespace Go.Proofs.Ytkmpmgojgidcgaa
set_option linter.unusedVariables false
open Go.RowKit

noncomputable def insts (l : List La) : Db := l.foldl instN (fun _ => none)
/-- What holds behind the installation of l. -/
def NwAt (l : List La) (N : Db) (i : Nat) : Prop := match N i with
  | none => ∀ a ∈ l, a.o.toNat ≠ i
  | some h => h.x ∈ l ∧ h.x.o.toNat = i ∧ h.l = 60 ∧ ∀ a ∈ l, a.o.toNat = i → newI a h.x ≤ 0
theorem insts_snoc (l : List La) (a : La) : insts (l ++ [a]) = instN (insts l) a := by unfold insts; rw [List.foldl_append]; rfl

theorem newI_self {x : La} (h : LaValid x) : newI x x = 0 := by have := newI_neg h h; omega
theorem nw_snoc {l : List La} {N : Db} (hl : ∀ a ∈ l, LaValid a) (h : ∀ i, NwAt l N i) {a : La} (ha : LaValid a) (i : Nat) : NwAt (l ++ [a]) (instN N a) i := by
  have hi := h i
  by_cases hia : i = a.o.toNat
  · subst hia
    unfold NwAt at hi
    cases hN : N a.o.toNat with
    | none =>
      rw [hN] at hi
      have hr : instR N a = 1 := by unfold instR; rw [vB_t ha, if_pos rfl, hN]
      have he : instN N a a.o.toNat = some ⟨a, 60⟩ := by unfold instN; rw [hr, vB_t ha, if_pos ⟨rfl, rfl⟩, if_pos rfl]
      unfold NwAt
      rw [he]
      refine ⟨by simp, rfl, rfl, fun b hb hbo => ?_⟩
      rcases List.mem_append.1 hb with hb | hb
      · exact absurd hbo (hi b hb)
      · rw [List.mem_singleton.1 hb, newI_self ha]; omega
    | some x =>
      rw [hN] at hi
      obtain ⟨hm, ho, hlf, hle⟩ := hi
      have hx := hl _ hm
      have hbd := newI_bd ha hx
      by_cases h1 : newI a x.x = 1
      · have hr : instR N a = 1 := by unfold instR; rw [vB_t ha, if_pos rfl, hN]; simp only [h1]; simp
        have he : instN N a a.o.toNat = some ⟨a, 60⟩ := by unfold instN; rw [hr, vB_t ha, if_pos ⟨rfl, rfl⟩, if_pos rfl]
        unfold NwAt
        rw [he]
        refine ⟨by simp, rfl, rfl, fun b hb hbo => ?_⟩
        rcases List.mem_append.1 hb with hb | hb
        · have hbv := hl b hb
          have h2 := hle b hb hbo
          have h3 := newI_neg hbv hx
          have h4 := newI_neg ha hbv
          have h5 := (newI_tr ha hx hbv (by omega) (by omega)).1
          show newI b a ≤ 0
          omega
        · rw [List.mem_singleton.1 hb, newI_self ha]; omega
      · have hr : instR N a ≠ 1 := by
          unfold instR; rw [vB_t ha, if_pos rfl, hN]
          have : newI a x.x = 0 ∨ newI a x.x = -1 := by omega
          rcases this with e | e <;> simp [e]
        have he : instN N a = N := by unfold instN; rw [if_neg (fun e => hr e.2)]
        unfold NwAt
        rw [he, hN]
        refine ⟨by simp [hm], ho, hlf, fun b hb hbo => ?_⟩
        rcases List.mem_append.1 hb with hb | hb
        · exact hle b hb hbo
        · rw [List.mem_singleton.1 hb]; omega
  · have he : instN N a i = N i := by
      unfold instN
      split
      · exact if_neg hia
      · rfl
    unfold NwAt at hi ⊢
    rw [he]
    cases hN : N i with
    | none =>
      rw [hN] at hi
      intro b hb
      rcases List.mem_append.1 hb with hb | hb
      · exact hi b hb
      · rw [List.mem_singleton.1 hb]; exact fun e => hia e.symm
    | some x =>
      rw [hN] at hi
      obtain ⟨hm, ho, hlf, hle⟩ := hi
      refine ⟨by simp [hm], ho, hlf, fun b hb hbo => ?_⟩
      rcases List.mem_append.1 hb with hb | hb
      · exact hle b hb hbo
      · rw [List.mem_singleton.1 hb] at hbo; exact absurd hbo.symm hia

theorem nw_take {l : List La} (hl : ∀ a ∈ l, LaValid a) : ∀ k, k ≤ l.length → ∀ i, NwAt (l.take k) (insts (l.take k)) i
  | 0, _ => fun i => by
    rw [List.take_zero]
    show NwAt [] (fun _ => none) i
    unfold NwAt
    simp
  | k + 1, hk => fun i => by
    rw [List.take_succ_eq_append_getElem (by omega), insts_snoc]
    exact nw_snoc (fun a ha => hl a (List.mem_of_mem_take ha)) (nw_take hl k (by omega)) (hl _ (List.getElem_mem _)) i
theorem nw_all {l : List La} (hl : ∀ a ∈ l, LaValid a) (i : Nat) : NwAt l (insts l) i := by
  have h := nw_take hl l.length (Nat.le_refl _) i
  rwa [List.take_length] at h
/-- What is held is one of those that were installed. -/
theorem insts_mem {l : List La} (hl : ∀ a ∈ l, LaValid a) {i : Nat} {h : Hd} (e : insts l i = some h) : h.x ∈ l ∧ h.x.o.toNat = i ∧ h.l = 60 ∧ ∀ a ∈ l, a.o.toNat = i → newI a h.x ≤ 0 := by
  have := nw_all hl i
  unfold NwAt at this
  rw [e] at this
  exact this
theorem insts_ok {l : List La} (hl : ∀ a ∈ l, LaValid a) : DbOk (insts l) := fun i h e => by
  obtain ⟨h1, h2, h3, _⟩ := insts_mem hl e
  have hv := hl _ h1
  have ho := hv.1
  exact ⟨hv, by omega, by omega, by omega⟩
theorem insts_small {l : List La} (hl : ∀ a ∈ l, LaValid a) : ∀ i, 64 ≤ i → insts l i = none := fun i hi => by
  cases e : insts l i with
  | none => rfl
  | some h =>
    obtain ⟨h1, h2, _⟩ := insts_mem hl e
    have := (hl _ h1).1
    omega
/-- What is held for the origin of one of them. -/
theorem insts_get {l : List La} (hl : ∀ a ∈ l, LaValid a) {a : La} (ha : a ∈ l) : ∃ h, getO (insts l) a.o = some h ∧ h.x ∈ l ∧ newI a h.x ≤ 0 := by
  have ho := (hl a ha).1
  have e1 : getO (insts l) a.o = insts l a.o.toNat := by unfold getO; rw [if_pos ⟨ho.1, by omega⟩]
  cases e : insts l a.o.toNat with
  | none =>
    have := nw_all hl a.o.toNat
    unfold NwAt at this
    rw [e] at this
    exact absurd rfl (this a ha)
  | some h =>
    obtain ⟨h1, h2, _, h4⟩ := insts_mem hl e
    exact ⟨h, by rw [e1, e], h1, h4 a ha rfl⟩
theorem sameB_refl (x : La) : sameB x x = true := by simp [sameB, conB]

end Go.Proofs.Ytkmpmgojgidcgaa

namespace Go.Proofs.Ytkmpmgojgidcgaa
set_option linter.unusedVariables false
open Go.RowKit Go.Sort Go.ChangeShapes Go.WideShapes Go.ChangeAt

/-- An advertisement as it lies in memory. -/
structure Lx where
  y : La
  A : Option Addr
  c : Nat
  B : Option Addr
  d : Nat
def lxL (s : Lx) : List Value := [.int .i64 s.y.o, .int .i64 s.y.s, .int .i64 s.y.a, .bool s.y.ov, .slice s.A s.y.adj.length s.c, .slice s.B s.y.pre.length s.d]
def lxV : List Lx → List Value
  | [] => []
  | s :: l => lxL s ++ lxV l
def LxOk (w : World) (s : Lx) : Prop := LaAt w (laV s.y.o s.y.s s.y.a s.y.ov s.A s.y.adj.length s.c s.B s.y.pre.length s.d) s.y
theorem lxV_len (l : List Lx) : (lxV l).length = l.length * 6 := by
  induction l with
  | nil => rfl
  | cons r l ih => simp only [lxV, lxL, List.length_append, List.length_cons, List.length_nil, ih]; omega
theorem lxV_get (l : List Lx) : ∀ (k : Nat) (hk : k < l.length) (j : Nat) (hj : j < 6), (lxV l)[6 * k + j]? = (lxL l[k])[j]? := by
  induction l with
  | nil => intro k hk; simp at hk
  | cons r l ih =>
    intro k hk j hj
    have h8 : (lxL r).length = 6 := rfl
    cases k with
    | zero => simp only [lxV, List.getElem_cons_zero]; rw [List.getElem?_append_left (by omega)]; simp
    | succ k =>
      simp only [lxV, List.getElem_cons_succ]
      rw [List.getElem?_append_right (by omega), h8, show 6 * (k + 1) + j - 6 = 6 * k + j by omega]
      exact ih k (by simpa using hk) j hj
theorem rd_lx {w : World} {A : Option Addr} {l : List Lx} (h : Rd w A (lxV l)) (hn : 0 < l.length) :
    ∃ b off, A = some ⟨b, off, none⟩ ∧ ∀ k (hk : k < l.length) j (u : Value), j < 6 → (lxL l[k])[j]? = some u → w.cell? ⟨b, off + k * 6 + j, none⟩ = some u := by
  obtain ⟨b, off, e, hc⟩ := rd_at h (by rw [lxV_len]; omega)
  refine ⟨b, off, e, fun k hk j u hj hu => ?_⟩
  rw [Nat.add_assoc]
  exact hc _ _ (by rw [Nat.mul_comm k 6, lxV_get l k hk j hj]; exact hu)
theorem rep_las {w : World} {xs : List La} : ∀ {vs : List Value}, Rep (IsLa w) 6 xs vs → ∃ l : List Lx, vs = lxV l ∧ l.length = xs.length ∧ ∀ s ∈ l, LxOk w s := by
  induction xs with
  | nil => intro vs h; exact ⟨[], h, rfl, by simp⟩
  | cons b t ih =>
    rintro vs ⟨cs', q, rfl, ⟨hla, hl6⟩, _, hr⟩
    obtain ⟨l, rfl, hl, hok⟩ := ih hr
    obtain ⟨A, cc, B, d, hv, hat⟩ := hla.opened
    have hcs : cs' = [.int .i64 b.o, .int .i64 b.s, .int .i64 b.a, .bool b.ov, .slice A b.adj.length cc, .slice B b.pre.length d] := by
      simp only [laV, Value.agg.injEq] at hv
      have := congrArg Array.toList hv
      simpa using this
    subst hcs
    refine ⟨⟨b, A, cc, B, d⟩ :: l, rfl, by simp [hl], fun s hs => ?_⟩
    rcases List.mem_cons.1 hs with rfl | hs
    · exact hat
    · exact hok s hs

section
variable {H : Type} {enc : TypeId × Value → H} {w : World} {base : Nat} {spare : Nat → Bool} {held : Bool} {r : Reach} {b0 : Nat} {v : Value} {d : DataW H} {ps : List MemPlace}
set_option maxRecDepth 100000 in
theorem arg_las (hv : Value.okWide Try.prog w r b0 22 v) (h : DataW.Trod enc Try.prog w base spare held 22 v d ps) :
    ∃ (A : Option Addr) (n c : Nat) (l : List Lx), v = .slice A n c ∧ Rd w A (lxV l) ∧ l.length = n ∧ n ≤ maxLen ∧ ∀ s ∈ l, LxOk w s := by
  obtain ⟨A, n, c, x, rfl, A', c', vs, h1, h2, h3, h4, h5⟩ := arg_slice Try.underlying22 (opens_slice Try.underlying22 (by kernel_rfl) (opens_la w)) hv h
  simp only [List.cons.injEq, Value.slice.injEq, and_true] at h1
  obtain ⟨rfl, rfl, rfl⟩ := h1
  rw [show Try.prog.cellsOf 30 = 6 from by kernel_rfl] at h4
  obtain ⟨l, rfl, hl, hok⟩ := rep_las h4
  exact ⟨A, _, c, l, rfl, h5, hl, Nat.le_trans h2 h3, hok⟩
end

end Go.Proofs.Ytkmpmgojgidcgaa

namespace Go.Proofs.Ytkmpmgojgidcgaa
set_option linter.unusedVariables false
open Go.RowKit Go.Maps Go.Sort

/-- The cells of an element. -/
theorem lx_cells {w : World} {b off : Nat} {l : List Lx} (h : Rd w (some ⟨b, off, none⟩) (lxV l)) (k : Nat) (hk : k < l.length) (s : Lx) (hs : l[k] = s) :
    w.cell? ⟨b, off + k * 6, none⟩ = some (.int .i64 s.y.o) ∧ w.cell? ⟨b, off + k * 6 + 1, none⟩ = some (.int .i64 s.y.s) ∧ w.cell? ⟨b, off + k * 6 + 2, none⟩ = some (.int .i64 s.y.a) ∧
    w.cell? ⟨b, off + k * 6 + 3, none⟩ = some (.bool s.y.ov) ∧ w.cell? ⟨b, off + k * 6 + 4, none⟩ = some (.slice s.A s.y.adj.length s.c) ∧ w.cell? ⟨b, off + k * 6 + 5, none⟩ = some (.slice s.B s.y.pre.length s.d) := by
  subst hs
  obtain ⟨b', off', e, hc⟩ := rd_lx h (by omega)
  injection e with e
  injection e with e1 e2 e3
  subst e1 e2
  have x0 := hc k hk 0 _ (by omega) rfl
  have x1 := hc k hk 1 _ (by omega) rfl
  have x2 := hc k hk 2 _ (by omega) rfl
  have x3 := hc k hk 3 _ (by omega) rfl
  have x4 := hc k hk 4 _ (by omega) rfl
  have x5 := hc k hk 5 _ (by omega) rfl
  simp only [Nat.add_zero] at x0
  exact ⟨x0, x1, x2, x3, x4, x5⟩
theorem lx_form {w : World} {A : Option Addr} {l : List Lx} (h : Rd w A (lxV l)) (hn : 0 < l.length) : ∃ b off, A = some ⟨b, off, none⟩ := by
  obtain ⟨b, off, e, _⟩ := rd_lx h hn
  exact ⟨b, off, e⟩
theorem St.via {W w w' : World} {bs : List (Nat × List Value)} {rs : List (Option Addr × List Value)} {g : Nat} (S : St W w bs rs) (hg : w.grownBy w' (some g)) (hB : W.heap.size ≤ g) (hd : ∀ x ∈ bs, x.1 ≠ g ∧ 0 < x.2.length) : St W w' bs rs :=
  ⟨below_via S.b hg hB S.b.size, fun i x hx => (S.bx i x hx).kept hg (fun e => by injection e with e; exact (hd x (List.mem_of_getElem? hx)).1 e) (hd x (List.mem_of_getElem? hx)).2, S.rd⟩
/-- The advertisements of a list. -/
abbrev laL (l : List Lx) : List La := l.map (·.y)
theorem laL_get (l : List Lx) (k : Nat) (hk : k < l.length) : (laL l)[k]'(by simpa [laL] using hk) = l[k].y := by simp [laL]
theorem insts_next (l : List Lx) (k : Nat) (hk : k < l.length) : insts ((laL l).take (k + 1)) = instN (insts ((laL l).take k)) l[k].y := by
  rw [List.take_succ_eq_append_getElem (by simpa [laL] using hk), insts_snoc, laL_get l k hk]
def AllV (l : List La) : Prop := ∀ a ∈ l, LaValid a ∧ fewB a = true
theorem allV_next {l : List Lx} {k : Nat} (hk : k < l.length) (h : AllV ((laL l).take k)) (h1 : LaValid l[k].y) (h2 : fewB l[k].y = true) : AllV ((laL l).take (k + 1)) := by
  rw [List.take_succ_eq_append_getElem (by simpa [laL] using hk), laL_get l k hk]
  intro a ha
  rcases List.mem_append.1 ha with ha | ha
  · exact h a ha
  · rw [List.mem_singleton.1 ha]; exact ⟨h1, h2⟩
theorem fnd_next (l : List Lx) (x : La) (k : Nat) (hk : k < l.length) : ((laL l).take (k + 1)).any (fun a => sameB a x) = (((laL l).take k).any (fun a => sameB a x) || sameB l[k].y x) := by
  rw [List.take_succ_eq_append_getElem (by simpa [laL] using hk), laL_get l k hk, List.any_append]
  simp

set_option maxRecDepth 100000 in
set_option maxHeartbeats 12800000 in
theorem newest_law (w : World) (A : Option Addr) (n c : Nat) (l : List Lx) (hA : Rd w A (lxV l)) (hn : l.length = n) (hm : n ≤ maxLen) (hok : ∀ s ∈ l, LxOk w s) :
    Calls Try.prog 3 #[.slice A n c] w fun e w' => e = .returned (.bool true) ∧ Below w.heap.size w w' := by
  replace hok := Lib.hid hok
  replace hn := Lib.hid hn
  unfold maxLen at hm
  have S := (St.start w).read hA
  clear hA
  go_enter Try.func3, Try.ntmps3
  go_wp2_with fail
  (with_reducible refine (awake_any _).mono ?_)
  rintro e w1 ⟨rfl, hb⟩
  replace S := S.call hb
  clear hb
  by_cases h12 : n ≤ 12
  rotate_left
  · go_wp2_with fail
    go_ret
    exact ⟨rfl, S.b⟩
  have hs1 := S.b.size
  go_wp2_with fail
  (with_reducible refine (dnew_any _).mono ?_)
  rintro e w2 ⟨rfl, dat, hb⟩
  replace S := S.call hb
  clear hb
  generalize hgb : w1.heap.size = b at *
  clear hgb
  have hv0 : Hid (AllV ((laL l).take 0)) := fun a ha => by simp at ha
  replace dat : Hid (DbAt w2 (b + 1) b (insts ((laL l).take 0))) := Lib.hid dat
  generalize b + 1 = g at *
  go_wp2_with fail
  go_loopw [4] (fun v4 wr => ∃ (k : Nat), v4 = .int .i64 k ∧ k ≤ n ∧ Hid (AllV ((laL l).take k)) ∧ Hid (DbAt wr g b (insts ((laL l).take k))) ∧ St w wr [] [(A, lxV l)]) (fun v4 _ => n - (intOf v4).toNat)
  case atStart => exact ⟨0, rfl, by omega, hv0, dat, S⟩
  case round =>
    clear S hv0 dat
    obtain ⟨k, rfl, hk, hv, dat, S⟩ := hrel
    by_cases hkn : k < n
    · have hkl : k < l.length := by rw [hn.out]; exact hkn
      obtain ⟨ba, off, rfl⟩ := lx_form (S.r 0 rfl) (by omega)
      have hso := hok.out l[k] (List.getElem_mem hkl)
      have hnx := insts_next l k hkl
      have hvn := allV_next hkl hv.out
      obtain ⟨s, hs⟩ : ∃ s, l[k] = s := ⟨_, rfl⟩
      rw [hs] at hso hnx hvn
      have hcell := fun W (h : Rd W (some ⟨ba, off, none⟩) (lxV l)) => lx_cells h k hkl s hs
      clear hs hkl
      obtain ⟨y, A2, c2, B2, d2⟩ := s
      unfold LxOk at hso
      simp only at hso hnx hvn hcell
      replace hcell := Lib.hid hcell
      replace hnx := Lib.hid hnx
      replace hvn := Lib.hid hvn
      obtain ⟨fb, hfb⟩ : ∃ z, fewB y = z := ⟨_, rfl⟩
      obtain ⟨vb, hvb⟩ : ∃ z, vB y = z := ⟨_, rfl⟩
      have F := fun W hb => few_any W _ y (hso.below hb)
      have V := fun W hb => rvalid_at W _ y (hso.below hb)
      have I := fun W (hb : Below w.heap.size w W) (dat : DbAt W g b (insts ((laL l).take k))) => dinstall_any W g b _ _ y dat (hso.below hb)
      rw [hfb] at F
      rw [hvb] at V
      replace F := Lib.hid F
      replace V := Lib.hid V
      replace I := Lib.hid I
      replace hfb := Lib.hid hfb
      replace hvb := Lib.hid hvb
      clear hso
      obtain ⟨x0, x1, x2, x3, x4, x5⟩ := hcell.out _ (S.r 0 rfl)
      go_wp2_with fail
      (with_reducible refine (F.out _ S.b).mono ?_)
      rintro e w3 ⟨rfl, hb⟩
      clear x0 x1 x2 x3 x4 x5 F
      replace S := S.call hb
      replace dat := Lib.hid (dat.out.below hb)
      clear hb
      cases fb with
      | false =>
        go_wp2_with fail
        go_ret
        exact ⟨rfl, S.b⟩
      | true =>
      obtain ⟨x0, x1, x2, x3, x4, x5⟩ := hcell.out _ (S.r 0 rfl)
      go_wp2_with fail
      (with_reducible refine (V.out _ S.b).mono ?_)
      rintro e w4 ⟨rfl, hb⟩
      clear x0 x1 x2 x3 x4 x5 V
      replace S := S.call hb
      replace dat := Lib.hid (dat.out.below hb)
      clear hb
      cases vb with
      | false =>
        go_wp2_with fail
        go_ret
        exact ⟨rfl, S.b⟩
      | true =>
      obtain ⟨x0, x1, x2, x3, x4, x5⟩ := hcell.out _ (S.r 0 rfl)
      go_wp2_with fail
      (with_reducible refine (I.out _ S.b dat.out).mono ?_)
      rintro e w5 ⟨rfl, dat2, hg⟩
      clear x0 x1 x2 x3 x4 x5 I hcell dat
      replace S := S.via hg (by omega) (by simp)
      clear hg
      rw [← hnx.out] at dat2
      replace dat2 := Lib.hid dat2
      have hv2 := Lib.hid (hvn.out (vB_iff.1 hvb.out) hfb.out)
      clear hvn hnx hvb hfb hv
      go_wp2_with fail
      go_round
      case rel => exact ⟨k + 1, by go_num, by omega, hv2, dat2, S⟩
      case measure => simp [intOf]; omega
    · obtain rfl : k = n := by omega
      have hal : AllV (laL l) := by have := hv.out; rwa [List.take_of_length_le (by simp [laL, hn.out])] at this
      rw [List.take_of_length_le (by simp [laL, hn.out])] at dat
      clear hv hkn hk
      have hlv : ∀ a ∈ laL l, LaValid a := fun a ha => (hal a ha).1
      have hdok := insts_ok hlv
      replace hdok := Lib.hid hdok
      replace hlv := Lib.hid hlv
      clear hal
      go_wp2_with fail
      go_loopw [5] (fun v5 wr => ∃ (k2 : Nat), v5 = .int .i64 k2 ∧ k2 ≤ k ∧ Hid (DbAt wr g b (insts (laL l))) ∧ St w wr [] [(A, lxV l)]) (fun v5 _ => k - (intOf v5).toNat)
      case atStart => exact ⟨0, rfl, by omega, dat, S⟩
      case round =>
        clear S dat
        obtain ⟨k2, rfl, hk, dat, S⟩ := hrel
        by_cases hkn : k2 < k
        · have hkl : k2 < l.length := by rw [hn.out]; exact hkn
          obtain ⟨ba, off, rfl⟩ := lx_form (S.r 0 rfl) (by omega)
          have hso := hok.out l[k2] (List.getElem_mem hkl)
          have hmem : l[k2].y ∈ laL l := List.mem_map.2 ⟨_, List.getElem_mem hkl, rfl⟩
          obtain ⟨s, hs⟩ : ∃ s, l[k2] = s := ⟨_, rfl⟩
          rw [hs] at hso hmem
          have hcell := fun W (h : Rd W (some ⟨ba, off, none⟩) (lxV l)) => lx_cells h k2 hkl s hs
          clear hs hkl
          obtain ⟨y, A2, c2, B2, d2⟩ := s
          unfold LxOk at hso
          simp only at hso hmem hcell
          replace hcell := Lib.hid hcell
          obtain ⟨hd, hgo, hxm, hnw⟩ := insts_get hlv.out hmem
          have hyo := (hlv.out y hmem).1
          have G := fun W (dat : DbAt W g b (insts (laL l))) => dget_any W g b _ y.o (wf64 (by omega) (by omega)) dat hdok.out.few
          rw [hgo] at G
          unfold GetPost getX at G
          simp only [Option.isSome_some] at G
          obtain ⟨x, hx⟩ : ∃ x, hd.x = x := ⟨_, rfl⟩
          rw [hx] at G hxm hnw
          replace G := Lib.hid G
          clear hgo hx hmem hyo
          obtain ⟨x0, x1, x2, x3, x4, x5⟩ := hcell.out _ (S.r 0 rfl)
          go_wp2_with fail
          (with_reducible refine (G.out _ dat.out).mono ?_)
          rintro e w3 ⟨v3, rfl, hown, hb⟩
          clear x0 x1 x2 x3 x4 x5 G
          replace S := S.call hb
          replace dat := Lib.hid (dat.out.below hb)
          obtain ⟨A7, c7, B7, d7, rfl, hL7⟩ := hown.open
          clear hown hb
          have hbb := below_new' w3 (.cells #[.int .i64 x.o, .int .i64 x.s, .int .i64 x.a, .bool x.ov, .slice A7 x.adj.length c7, .slice B7 x.pre.length d7] 30)
          have T := S.new' #[.int .i64 x.o, .int .i64 x.s, .int .i64 x.a, .bool x.ov, .slice A7 x.adj.length c7, .slice B7 x.pre.length d7] 30 w3.heap.size _ rfl rfl
          have hx7 := hL7.out _ hbb
          replace dat := dat.out.below hbb
          clear hbb hL7 S
          go_upto_region 16 with fail
          generalize World.alloc _ _ = w4 at *
          generalize w3.heap.size = g3 at *
          obtain ⟨z, hz⟩ : ∃ z, newI y x = z := ⟨_, rfl⟩
          rw [hz] at hnw
          have NW : Hid (∀ W, Below w4.heap.size w4 W → Calls Try.prog 16 #[laV y.o y.s y.a y.ov A2 y.adj.length c2 B2 y.pre.length d2, laV x.o x.s x.a x.ov A7 x.adj.length c7 B7 x.pre.length d7] W fun e w' => e = .returned (.int .i64 z) ∧ Below W.heap.size W w') := fun W hb => by
            have := lnewer_any W _ _ y x ((hso.below T.b).below hb) (hx7.below hb)
            rwa [hz] at this
          have hz0 : decide ((0 : Int) < z) = false := by simp; omega
          have hfnd : Hid ((laL l).any (fun a => sameB a x) = true) := List.any_eq_true.2 ⟨x, hxm, sameB_refl x⟩
          clear hz hnw hxm hso
          obtain ⟨y0, y1, y2, y3, y4, y5⟩ := hcell.out _ (T.r 0 rfl)
          have x0 := cell_regrown y0
          have x1 := cell_regrown y1
          have x2 := cell_regrown y2
          have x3 := cell_regrown y3
          have x4 := cell_regrown y4
          have x5 := cell_regrown y5
          clear y0 y1 y2 y3 y4 y5
          have a0 := cell_regrown (T.c 0 0 rfl rfl)
          have a1 := cell_regrown (T.c 0 1 rfl rfl)
          have a2 := cell_regrown (T.c 0 2 rfl rfl)
          have a3 := cell_regrown (T.c 0 3 rfl rfl)
          have a4 := cell_regrown (T.c 0 4 rfl rfl)
          have a5 := cell_regrown (T.c 0 5 rfl rfl)
          refine wp_region_quiet_below (by kernel_rfl) (by kernel_rfl) ?_
          repeat (go_big_quiet_step ((first | (go_at_call 16; with_reducible exact Calls.regrown_of (NW.out _ (below_regrown _ _ _))))))
          refine wpQuiet_nil ?_
          intro _ hw'
          obtain ⟨⟨dq, osq⟩, hw''⟩ := hw'
          subst hw''
          replace T := T.call (below_regrown _ dq osq)
          replace dat := dat.below (below_regrown _ dq osq)
          replace hx7 := hx7.below (below_regrown _ dq osq)
          generalize grow (redrawn _ dq) osq = w5 at *
          clear x0 x1 x2 x3 x4 x5 NW hz0 hcell
          clear a0 a1 a2 a3 a4 a5
          replace dat := Lib.hid dat
          replace hx7 := Lib.hid hx7
          have hf0 : Hid (((laL l).take 0).any (fun a => sameB a x) = false) := rfl
          go_wp2_with fail
          go_loopw [8, 9] (fun v8 v9 wr => ∃ (j : Nat) (fb : Bool), v9 = .int .i64 j ∧ v8 = .bool fb ∧ j ≤ k ∧ Hid (((laL l).take j).any (fun a => sameB a x) = fb) ∧ Hid (LaAt wr (laV x.o x.s x.a x.ov A7 x.adj.length c7 B7 x.pre.length d7) x) ∧ Hid (DbAt wr g b (insts (laL l))) ∧ St w wr [(g3, [.int .i64 x.o, .int .i64 x.s, .int .i64 x.a, .bool x.ov, .slice A7 x.adj.length c7, .slice B7 x.pre.length d7])] [(some ⟨ba, off, none⟩, lxV l)]) (fun _ v9 _ => k - (intOf v9).toNat)
          case atStart => exact ⟨0, false, rfl, rfl, by omega, hf0, hx7, dat, T⟩
          case round =>
            clear T dat hx7 hf0
            obtain ⟨j, fb, rfl, rfl, hj, hfb, hx7, dat, T⟩ := hrel
            by_cases hjn : j < k
            · have hjl : j < l.length := by rw [hn.out]; exact hjn
              have hso := hok.out l[j] (List.getElem_mem hjl)
              have hnx := fnd_next l x j hjl
              rw [hfb.out] at hnx
              obtain ⟨s, hs⟩ : ∃ s, l[j] = s := ⟨_, rfl⟩
              rw [hs] at hso hnx
              have hcell := fun W (h : Rd W (some ⟨ba, off, none⟩) (lxV l)) => lx_cells h j hjl s hs
              clear hs hjl hfb
              obtain ⟨y, A2, c2, B2, d2⟩ := s
              unfold LxOk at hso
              simp only at hso hnx hcell
              obtain ⟨sb, hsb⟩ : ∃ z, sameB y x = z := ⟨_, rfl⟩
              rw [hsb] at hnx
              replace hnx := Lib.hid hnx
              have SM : Hid (∀ W, Below wr.heap.size wr W → Calls Try.prog 17 #[laV y.o y.s y.a y.ov A2 y.adj.length c2 B2 y.pre.length d2, laV x.o x.s x.a x.ov A7 x.adj.length c7 B7 x.pre.length d7] W fun e w' => e = .returned (.bool sb) ∧ Below W.heap.size W w') := fun W hb => by
                have := rsamela_any W _ _ y x ((hso.below T.b).below hb) (hx7.out.below hb)
                rwa [hsb] at this
              clear hso hsb
              replace dat := dat.out
              replace hx7 := hx7.out
              obtain ⟨y0, y1, y2, y3, y4, y5⟩ := hcell _ (T.r 0 rfl)
              have x0 := cell_regrown y0
              have x1 := cell_regrown y1
              have x2 := cell_regrown y2
              have x3 := cell_regrown y3
              have x4 := cell_regrown y4
              have x5 := cell_regrown y5
              clear y0 y1 y2 y3 y4 y5 hcell
              have a0 := cell_regrown (T.c 0 0 rfl rfl)
              have a1 := cell_regrown (T.c 0 1 rfl rfl)
              have a2 := cell_regrown (T.c 0 2 rfl rfl)
              have a3 := cell_regrown (T.c 0 3 rfl rfl)
              have a4 := cell_regrown (T.c 0 4 rfl rfl)
              have a5 := cell_regrown (T.c 0 5 rfl rfl)
              cases fb
              all_goals
                go_upto_region 22 with fail
                refine wp_region_quiet_below (by kernel_rfl) (by kernel_rfl) ?_
                repeat (go_big_quiet_step ((first | (go_at_call 17; with_reducible exact Calls.regrown_of (SM.out _ (below_regrown _ _ _))))))
                refine wpQuiet_nil ?_
                intro _ hw'
                obtain ⟨⟨dq, osq⟩, hw''⟩ := hw'
                subst hw''
                replace T := T.call (below_regrown _ dq osq)
                replace dat := dat.below (below_regrown _ dq osq)
                replace hx7 := hx7.below (below_regrown _ dq osq)
                generalize grow (redrawn _ dq) osq = w6 at *
                clear x0 x1 x2 x3 x4 x5 SM
                clear a0 a1 a2 a3 a4 a5
                replace dat := Lib.hid dat
                replace hx7 := Lib.hid hx7
                go_wp2_with fail
                go_round
                case rel => exact ⟨j + 1, _, by go_num, rfl, by omega, hnx, hx7, dat, T⟩
                case measure => simp [intOf]; omega
            · obtain rfl : j = k := by omega
              obtain rfl : fb = true := by
                have := hfb.out
                rw [List.take_of_length_le (by simp [laL, hn.out]), hfnd.out] at this
                exact this.symm
              replace T := T.keepBoxes [] (by simp)
              clear hfb hfnd hx7 hjn hj
              go_wp2_with fail
              go_round
              case rel => exact ⟨k2 + 1, by go_num, by omega, dat, T⟩
              case measure => simp [intOf]; omega
        · replace S := S.b
          clear dat
          go_wp2_with fail
          go_ret
          exact ⟨rfl, S⟩

end Go.Proofs.Ytkmpmgojgidcgaa

namespace Go.Proofs.Ytkmpmgojgidcgaa
set_option linter.unusedVariables false
open Go.RowKit Go.Maps Go.Sort

set_option maxRecDepth 100000 in
set_option maxHeartbeats 3200000 in
theorem sleq_int (w : World) (A B : Option Addr) (n c m d : Nat) (xs ys : List Int) (hA : Rd w A (xs.map encZ)) (hB : Rd w B (ys.map encZ)) (hn : xs.length = n) (hm : ys.length = m) (b1 : n ≤ 9223372036854775807) :
    Calls Try.prog 44 #[.slice A n c, .slice B m d] w fun e w' => e = .returned (.bool (decide (xs = ys))) ∧ Below w.heap.size w w' := by
  obtain ⟨R, hR⟩ : ∃ R, decide (xs = ys) = R := ⟨_, rfl⟩
  rw [hR]
  have hF : xs ≠ ys → R = false := fun h => by rw [← hR]; exact decide_eq_false h
  have hT : xs = ys → R = true := fun h => by rw [← hR]; exact decide_eq_true h
  clear hR
  by_cases hnm : n = m
  rotate_left
  · obtain rfl := hF (fun h => hnm (by rw [← hn, ← hm, h]))
    have e2b : ((n : Int) != (m : Int)) = true := by simp; omega
    clear hnm hn hm hF hT
    go_enter Try.func44, Try.ntmps44
    go_wp2_with fail
    go_ret
    exact ⟨rfl, Below.refl _ _⟩
  subst hnm
  have S := ((St.start w).read hB).read hA
  clear hA hB
  replace hn := Lib.hid hn
  replace hm := Lib.hid hm
  replace hF := Lib.hid hF
  replace hT := Lib.hid hT
  go_enter Try.func44, Try.ntmps44
  go_wp2_with fail
  go_loopw [13] (fun v13 wr => ∃ i : Nat, v13 = .int .i64 i ∧ i ≤ n ∧ Hid (xs.take i = ys.take i) ∧ St w wr [] [(A, xs.map encZ), (B, ys.map encZ)]) (fun v13 _ => n - (intOf v13).toNat)
  case atStart => exact ⟨0, rfl, by omega, rfl, S⟩
  case round =>
    clear S
    obtain ⟨i, rfl, hi, htk, S⟩ := hrel
    by_cases him : i < n
    · have hkl : i < xs.length := by have := hn.out; omega
      have hkl' : i < ys.length := by have := hm.out; omega
      obtain ⟨b, off, rfl, hc⟩ := rd_at (S.r 0 rfl) (by simp only [List.length_map]; omega)
      obtain ⟨b', off', rfl, hc'⟩ := rd_at (S.r 1 rfl) (by simp only [List.length_map]; omega)
      have x0 : wr.cell? ⟨b, off + i, none⟩ = some (.int .i64 xs[i]) := hc i _ (by rw [List.getElem?_map, List.getElem?_eq_getElem hkl]; rfl)
      have y0 : wr.cell? ⟨b', off' + i, none⟩ = some (.int .i64 ys[i]) := hc' i _ (by rw [List.getElem?_map, List.getElem?_eq_getElem hkl']; rfl)
      have hs1 := List.take_succ_eq_append_getElem hkl
      have hs2 := List.take_succ_eq_append_getElem hkl'
      have hne : xs[i] ≠ ys[i] → R = false := fun h => hF.out (fun h2 => h (by subst h2; rfl))
      clear hc hc'
      generalize xs[i] = x at *
      generalize ys[i] = y at *
      by_cases e : x = y
      · have htk2 : Hid (xs.take (i + 1) = ys.take (i + 1)) := by show _ = _; rw [hs1, hs2, htk.out, e]
        have e0 : (x != y) = false := by simp [e]
        clear hs1 hs2 hne e
        go_wp2_with fail
        go_quiet (fail)
        go_wp2_with fail
        go_round
        case rel => exact ⟨i + 1, by go_num, by omega, htk2, S.drewN nq⟩
        case measure => simp [intOf]; omega
      · obtain rfl := hne e
        have e0 : (x != y) = true := by simp [e]
        clear hs1 hs2 hne e
        go_wp2_with fail
        go_quiet (fail)
        go_wp2_with fail
        go_ret
        exact ⟨rfl, below_drewN S.b nq⟩
    · obtain rfl : i = n := by omega
      have heq : xs = ys := by
        have := htk.out
        rwa [List.take_of_length_le (by have := hn.out; omega), List.take_of_length_le (by have := hm.out; omega)] at this
      obtain rfl := hT.out heq
      clear heq
      go_wp2_with fail
      go_ret
      exact ⟨rfl, S.b⟩

/-! ### A database that may be nil -/
def DbP (w : World) (v : Value) (N : Db) : Prop := (v = .pointer none ∧ N = fun _ => none) ∨ ∃ g b, v = .pointer (some ⟨g, 0, none⟩) ∧ DbAt w g b N
theorem DbAt.p {w : World} {g b : Nat} {N : Db} (h : DbAt w g b N) : DbP w (.pointer (some ⟨g, 0, none⟩)) N := .inr ⟨g, b, rfl, h⟩
theorem DbP.nil (w : World) : DbP w (.pointer none) (fun _ => none) := .inl ⟨rfl, rfl⟩
theorem DbP.below {w w' : World} {v : Value} {N : Db} (h : DbP w v N) (hb : Below w.heap.size w w') : DbP w' v N := by
  rcases h with h | ⟨g, b, e, h⟩
  · exact .inl h
  · exact .inr ⟨g, b, e, h.below hb⟩
theorem orgs_nil : orgs (fun _ => none) = [] := by
  unfold orgs
  rw [List.filter_eq_nil_iff]
  intro i _; simp
theorem dorigins_p (w : World) (v : Value) (N : Db) (h : DbP w v N) : Calls Try.prog 43 #[v] w fun e w' => ∃ A c, e = .returned (.slice A (orgs N).length c) ∧ Rd w' A ((orgs N).map encZ) ∧ Below w.heap.size w w' := by
  rcases h with ⟨rfl, rfl⟩ | ⟨g, b, rfl, h⟩
  · refine (dorigins_nil w).mono ?_
    rintro e w' ⟨rfl, rfl⟩
    rw [orgs_nil]
    exact ⟨none, 0, rfl, Rd.nil _ _, Below.refl _ _⟩
  · refine (dorigins_any w g b N h).mono ?_
    rintro e w' ⟨A, c, he, ho, hb⟩
    exact ⟨A, c, he, own_slice ho, hb⟩
/-- What is held for a number. -/
theorem DbAt.el {w : World} {g b : Nat} {N : Db} (h : DbAt w g b N) {q : Nat} (hq : q < 64) {hh : Hd} (hN : N q = some hh) :
    ∃ A c B d, (∀ w', Below w.heap.size w w' → (Instr.lookup 81 (.map (some b)) (.int .i64 (q : Int)) false).run Try.prog w' = .ok (hdV hh.x A c B d hh.l) w') ∧ LaAt w (laV hh.x.o hh.x.s hh.x.a hh.x.ov A hh.x.adj.length c B hh.x.pre.length d) hh.x := by
  obtain ⟨⟨M, hm, he⟩, hc⟩ := h
  have heq := he q hq
  rw [hN] at heq
  cases hM : M (q : Int) with
  | none => rw [hM] at heq; exact heq.elim
  | some vv =>
    rw [hM] at heq
    obtain ⟨A, c, B, d, rfl, hla⟩ := heq
    refine ⟨A, c, B, d, fun w' hb => ?_, hla.1⟩
    have := (hm.below hb).run_at (i := (q : Int)) (wf64 (by omega) (by omega))
    rw [hM] at this
    exact this
/-- Behind another database's turn. -/
theorem DbAt.keptOther {w w' : World} {g b b' : Nat} {N : Db} {M' : Int → Option Value} (h : DbAt w g b N) (hm' : MapIs w b' M') (hg : w.grownBy w' (some b')) (hne : b ≠ b') : DbAt w' g b N := by
  obtain ⟨⟨M, hm, he⟩, hc⟩ := h
  refine ⟨⟨M, hm.kept hg (fun e => by injection e with e; exact hne e.symm), fun i hi => (he i hi).keptMap hm' hg⟩, ?_⟩
  rw [World.cell?_of_block (a := ⟨g, 0, none⟩) (hg.block g (World.block_lt_of_cell? _ _ hc) (fun e => by injection e with e; subst e; rw [hm'.no_cell] at hc; cases hc))]
  exact hc
theorem DbAt.map {w : World} {g b : Nat} {N : Db} (h : DbAt w g b N) : ∃ M, MapIs w b M := by
  obtain ⟨⟨M, hm, _⟩, _⟩ := h
  exact ⟨M, hm⟩

/-- 'x.a'. -/
theorem hd_field (x : La) (A : Option Addr) (c : Nat) (B : Option Addr) (d : Nat) (l : Int) (W : World) : (Instr.field 89 (hdV x A c B d l) 0).run Try.prog W = .ok (laV x.o x.s x.a x.ov A x.adj.length c B x.pre.length d) W := by kernel_rfl

/-- What Equal answers. -/
def sameAt (N M : Db) (i : Int) : Bool := match N i.toNat, M i.toNat with | some a, some b => sameB a.x b.x | _, _ => true
def eqDb (N M : Db) : Bool := decide (orgs N = orgs M) && (orgs N).all (sameAt N M)

set_option maxRecDepth 100000 in
set_option maxHeartbeats 3200000 in
theorem dequal_any (w : World) (v u : Value) (N M : Db) (h1 : DbP w v N) (h2 : DbP w u M) : Calls Try.prog 25 #[v, u] w fun e w' => e = .returned (.bool (eqDb N M)) ∧ Below w.heap.size w w' := by
  have S := St.start w
  obtain ⟨R, hR⟩ : ∃ R, eqDb N M = R := ⟨_, rfl⟩
  rw [hR]
  have O1 := dorigins_p w v N h1
  have O2 := fun W (hb : Below w.heap.size w W) => dorigins_p W u M (h2.below hb)
  have hl1 := orgs_len N
  obtain ⟨n, hn⟩ : ∃ n, (orgs N).length = n := ⟨_, rfl⟩
  obtain ⟨m, hm⟩ : ∃ m, (orgs M).length = m := ⟨_, rfl⟩
  rw [hn] at O1 hl1
  rw [hm] at O2
  replace O1 := Lib.hid O1
  replace O2 := Lib.hid O2
  replace hR := Lib.hid hR
  replace hn := Lib.hid hn
  replace hm := Lib.hid hm
  go_enter Try.func25, Try.ntmps25
  go_wp2_with fail
  (with_reducible refine (O1.out).mono ?_)
  rintro e w1 ⟨A, c, rfl, r1, hb⟩
  replace S := S.call hb
  clear hb O1
  go_wp2_with fail
  (with_reducible refine (O2.out _ S.b).mono ?_)
  rintro e w2 ⟨B, d, rfl, r2, hb⟩
  replace S := S.call hb
  replace r1 := r1.below hb
  clear hb O2
  have EQ := sleq_int w2 A B n c m d (orgs N) (orgs M) r1 r2 hn.out hm.out (by omega)
  obtain ⟨q, hq⟩ : ∃ q, decide (orgs N = orgs M) = q := ⟨_, rfl⟩
  rw [hq] at EQ
  replace EQ := Lib.hid EQ
  go_wp2_with fail
  (with_reducible refine (EQ.out).mono ?_)
  rintro e w3 ⟨rfl, hb⟩
  replace S := S.call hb
  replace r1 := r1.below hb
  clear hb EQ r2
  cases q with
  | false =>
    obtain rfl : R = false := by rw [← hR.out]; unfold eqDb; rw [hq]; rfl
    go_wp2_with fail
    go_ret
    exact ⟨rfl, S.b⟩
  | true =>
  have hNM : orgs N = orgs M := of_decide_eq_true hq
  have hRa : (orgs N).all (sameAt N M) = R := by rw [← hR.out]; unfold eqDb; rw [hq]; simp
  have ha0 : Hid (((orgs N).take 0).all (sameAt N M) = true) := rfl
  replace hRa := Lib.hid hRa
  replace hNM := Lib.hid hNM
  replace h1 := Lib.hid h1
  replace h2 := Lib.hid h2
  replace r1 := Lib.hid r1
  clear hq hR hm
  go_wp2_with fail
  go_loopw [17] (fun v17 wr => ∃ (k : Nat), v17 = .int .i64 k ∧ k ≤ n ∧ Hid (((orgs N).take k).all (sameAt N M) = true) ∧ Hid (Rd wr A ((orgs N).map encZ)) ∧ St w wr [] []) (fun v17 _ => n - (intOf v17).toNat)
  case atStart => exact ⟨0, rfl, by omega, ha0, r1, S⟩
  case round =>
    clear S r1 ha0
    obtain ⟨k, rfl, hk, hak, r1, S⟩ := hrel
    by_cases hkn : k < n
    · have hkl : k < (orgs N).length := by rw [hn.out]; exact hkn
      have hsucc : ((orgs N).take (k + 1)).all (sameAt N M) = sameAt N M (orgs N)[k] := by
        rw [List.take_succ_eq_append_getElem hkl, List.all_append, hak.out]; simp
      have hm1 := (orgs_mem (N := N) (orgs N)[k]).1 (List.getElem_mem hkl)
      have hm2 := (orgs_mem (N := M) (orgs N)[k]).1 (by rw [← hNM.out]; exact List.getElem_mem hkl)
      have hall : sameAt N M (orgs N)[k] = false → R = false := fun h => by
        rw [← hRa.out, List.all_eq_false]
        exact ⟨_, List.getElem_mem hkl, by rw [h]; simp⟩
      obtain ⟨b14, off14, rfl, hz14⟩ := rd_at r1.out (by simp only [List.length_map]; omega)
      have z14 := hz14 k _ (by rw [List.getElem?_map, List.getElem?_eq_getElem hkl]; rfl)
      clear hz14
      obtain ⟨q, hq⟩ := Int.eq_ofNat_of_zero_le hm1.1.1
      rw [hq] at hsucc hm1 hm2 hall z14
      rw [Int.toNat_natCast] at hm1 hm2
      have hq64 : q < 64 := by have := hm1.1.2; omega
      obtain ⟨a, hNq⟩ := Option.isSome_iff_exists.1 hm1.2
      obtain ⟨b, hMq⟩ := Option.isSome_iff_exists.1 hm2.2
      have hsa : sameAt N M (q : Int) = sameB a.x b.x := by unfold sameAt; rw [Int.toNat_natCast, hNq, hMq]
      rw [hsa] at hsucc hall
      rcases h1.out with ⟨_, h0⟩ | ⟨g1, b1, hv1, d1⟩
      · rw [h0] at hNq; cases hNq
      rcases h2.out with ⟨_, h0⟩ | ⟨g2, b2, hv2, d2⟩
      · rw [h0] at hMq; cases hMq
      subst hv1 hv2
      obtain ⟨A1, c1, B1, e1, L1, la1⟩ := d1.el hq64 hNq
      obtain ⟨A2, c2, B2, e2, L2, la2⟩ := d2.el hq64 hMq
      have x0 := cell_regrown (cell_later S.b d1.cell)
      have y0 := cell_regrown (cell_later S.b d2.cell)
      have K1 := fun dq os => L1 _ (belowR S.b dq os S.b.size)
      have K2 := fun dq os => L2 _ (belowR S.b dq os S.b.size)
      obtain ⟨sb, hsb⟩ : ∃ z, sameB a.x b.x = z := ⟨_, rfl⟩
      rw [hsb] at hsucc hall
      have SM : Hid (∀ W, Below wr.heap.size wr W → Calls Try.prog 45 #[laV a.x.o a.x.s a.x.a a.x.ov A1 a.x.adj.length c1 B1 a.x.pre.length e1, laV b.x.o b.x.s b.x.a b.x.ov A2 b.x.adj.length c2 B2 b.x.pre.length e2] W fun e w' => e = .returned (.bool sb) ∧ Below W.heap.size W w') := fun W hb => by
        have := lsame_any W _ _ a.x b.x ((la1.below S.b).below hb) ((la2.below S.b).below hb)
        rwa [hsb] at this
      have FL1 := hd_field a.x A1 c1 B1 e1 a.l
      have FL2 := hd_field b.x A2 c2 B2 e2 b.l
      unfold hdV at K1 K2 FL1 FL2
      replace hsucc := Lib.hid hsucc
      replace hall := Lib.hid hall
      replace r1 := r1.out
      clear la1 la2 hsb hNq hMq hq hm1 hm2 hsa L1 L2 d1 d2 hkl hak
      go_upto_region 7 with fail
      clear z14
      refine wp_region_quiet_below (by kernel_rfl) (by kernel_rfl) ?_
      repeat (go_big_quiet_step ((first | (go_at_call 45; with_reducible exact Calls.regrown_of (SM.out _ (below_regrown _ _ _))))))
      refine wpQuiet_nil ?_
      intro _ hw'
      obtain ⟨⟨dq, osq⟩, hw''⟩ := hw'
      subst hw''
      replace S := S.call (below_regrown _ dq osq)
      replace r1 := r1.below (below_regrown _ dq osq)
      generalize grow (redrawn _ dq) osq = w6 at *
      replace r1 := Lib.hid r1
      clear x0 y0 K1 K2 SM FL1 FL2
      cases sb with
      | false =>
        obtain rfl := hall.out rfl
        go_wp2_with fail
        go_ret
        exact ⟨rfl, S.b⟩
      | true =>
        go_wp2_with fail
        go_round
        case rel => exact ⟨k + 1, by go_num, by omega, hsucc, r1, S⟩
        case measure => simp [intOf]; omega
    · obtain rfl : k = n := by omega
      obtain rfl : R = true := by
        have := hak.out
        rw [List.take_of_length_le (by rw [hn.out]; exact Nat.le_refl _), hRa.out] at this
        exact this
      go_wp2_with fail
      go_ret
      exact ⟨rfl, S.b⟩

end Go.Proofs.Ytkmpmgojgidcgaa

namespace Go.Proofs.Ytkmpmgojgidcgaa
set_option linter.unusedVariables false
open Go.RowKit Go.Maps Go.Sort

/-- An origin's place: an advertisement as it lies in memory, what is left of it, whether it is there. -/
structure Rs where
  x : Lx
  l : Int
  is : Bool
def hdL (s : Rs) : List Value := lxL s.x ++ [.int .i64 s.l]
def atsC (R : Nat → Rs) : Nat → List Value
  | 0 => []
  | n + 1 => atsC R n ++ hdL (R n)
def rdC (R : Nat → Rs) : List Value := (List.range 64).map (fun i => .bool (R i).is) ++ atsC R 64
section
variable (R : Nat → Rs)
theorem hdL_len (s : Rs) : (hdL s).length = 7 := rfl
theorem atsC_len : ∀ n, (atsC R n).length = n * 7
  | 0 => rfl
  | n + 1 => by rw [atsC, List.length_append, atsC_len n, hdL_len]; omega
theorem atsC_at : ∀ n i, i < n → ∀ j, j < 7 → (atsC R n)[i * 7 + j]? = (hdL (R i))[j]?
  | 0, i, h => by omega
  | n + 1, i, h => fun j hj => by
    rw [atsC]
    by_cases e : i = n
    · subst e
      rw [List.getElem?_append_right (by rw [atsC_len]; omega), atsC_len]
      congr 1; omega
    · rw [List.getElem?_append_left (by rw [atsC_len]; omega)]
      exact atsC_at n i (by omega) j hj
theorem rdC_len : (rdC R).length = 512 := by unfold rdC; rw [List.length_append, atsC_len]; simp
theorem rdC_is {i : Nat} (hi : i < 64) : (rdC R)[i]? = some (.bool (R i).is) := by
  unfold rdC
  rw [List.getElem?_append_left (by simpa using hi)]
  simp [hi]
theorem rdC_at {i : Nat} (hi : i < 64) {j : Nat} (hj : j < 7) : (rdC R)[64 + i * 7 + j]? = (hdL (R i))[j]? := by
  unfold rdC
  rw [List.getElem?_append_right (by simp; omega)]
  simp only [List.length_map, List.length_range]
  rw [show 64 + i * 7 + j - 64 = i * 7 + j by omega]
  exact atsC_at R 64 i hi j hj
end
theorem rdC_ext {l : List Value} {R : Nat → Rs} (hl : l.length = 512) (h1 : ∀ i, i < 64 → l[i]? = some (.bool (R i).is)) (h2 : ∀ i, i < 64 → ∀ j, j < 7 → l[64 + i * 7 + j]? = (hdL (R i))[j]?) : l = rdC R := by
  apply List.ext_getElem?
  intro n
  by_cases h : n < 64
  · rw [h1 n h, rdC_is R h]
  · by_cases h5 : n < 512
    · have e : n = 64 + (n - 64) / 7 * 7 + (n - 64) % 7 := by omega
      rw [e, h2 _ (by omega) _ (by omega), rdC_at R (by omega) (by omega)]
    · rw [List.getElem?_eq_none (by omega), List.getElem?_eq_none (by rw [rdC_len]; omega)]
def upR (R : Nat → Rs) (i : Nat) (s : Rs) : Nat → Rs := fun j => if j = i then s else R j
theorem upR_same (R : Nat → Rs) (i : Nat) (s : Rs) : upR R i s i = s := by simp [upR]
theorem upR_other (R : Nat → Rs) {i j : Nat} (s : Rs) (h : j ≠ i) : upR R i s j = R j := by simp [upR, h]
theorem upR_upR (R : Nat → Rs) (i : Nat) (s s' : Rs) : upR (upR R i s) i s' = upR R i s' := by funext j; unfold upR; split <;> rfl
theorem rdC_set_is (R : Nat → Rs) {i : Nat} (hi : i < 64) (b : Bool) : (rdC R).set i (.bool b) = rdC (upR R i { R i with is := b }) := by
  refine rdC_ext (by rw [List.length_set, rdC_len]) (fun k hk => ?_) (fun k hk j hj => ?_)
  · by_cases e : i = k
    · subst e
      rw [List.getElem?_set_self (by rw [rdC_len]; omega), upR_same]
    · rw [List.getElem?_set_ne e, rdC_is R hk, upR_other R _ (fun h => e h.symm)]
  · rw [List.getElem?_set_ne (by omega), rdC_at R hk hj]
    by_cases e : i = k
    · subst e; rw [upR_same]; rfl
    · rw [upR_other R _ (fun h => e h.symm)]
theorem rdC_set_at (R : Nat → Rs) {i : Nat} (hi : i < 64) {j : Nat} (hj : j < 7) (v : Value) (s : Rs) (hs : s.is = (R i).is) (hv : (hdL (R i)).set j v = hdL s) : (rdC R).set (64 + i * 7 + j) v = rdC (upR R i s) := by
  refine rdC_ext (by rw [List.length_set, rdC_len]) (fun k hk => ?_) (fun k hk m hm => ?_)
  · rw [List.getElem?_set_ne (by omega), rdC_is R hk]
    by_cases e : i = k
    · subst e; rw [upR_same, hs]
    · rw [upR_other R _ (fun h => e h.symm)]
  · by_cases e : i = k
    · subst e
      rw [upR_same, ← hv]
      by_cases e2 : j = m
      · subst e2
        rw [List.getElem?_set_self (by rw [rdC_len]; omega), List.getElem?_set_self (by rw [hdL_len]; omega)]
      · rw [List.getElem?_set_ne (by omega), List.getElem?_set_ne e2, rdC_at R hi hm]
    · rw [upR_other R _ (fun h => e h.symm), List.getElem?_set_ne (by omega), rdC_at R hk hm]
theorem rdC_one (R : Nat → Rs) : ∀ v ∈ rdC R, v.oneCell' = true := by
  intro v hv
  obtain ⟨n, hn, rfl⟩ := List.getElem_of_mem hv
  rw [rdC_len] at hn
  by_cases h : n < 64
  · have := rdC_is R h
    rw [List.getElem?_eq_getElem (by rw [rdC_len]; omega)] at this
    injection this with this
    rw [this]; rfl
  · have e : n = 64 + (n - 64) / 7 * 7 + (n - 64) % 7 := by omega
    have := rdC_at R (i := (n - 64) / 7) (by omega) (j := (n - 64) % 7) (by omega)
    rw [← e, List.getElem?_eq_getElem (by rw [rdC_len]; omega)] at this
    have hm := List.mem_of_getElem? this.symm
    simp only [hdL, lxL, List.cons_append, List.nil_append, List.mem_cons, List.not_mem_nil, or_false] at hm
    rcases hm with e | e | e | e | e | e | e <;> rw [e] <;> rfl
/-- What the database holds. -/
def dbOf (R : Nat → Rs) : Db := fun i => if i < 64 ∧ (R i).is = true then some ⟨(R i).x.y, (R i).l⟩ else none
theorem dbOf_small (R : Nat → Rs) : ∀ i, 64 ≤ i → dbOf R i = none := fun i hi => if_neg (by omega)
/-- All advertisements, the gone ones too, can be read. -/
def RdOk (w : World) (R : Nat → Rs) : Prop := ∀ i, i < 64 → LxOk w (R i).x
theorem RdOk.below {w w' : World} {R : Nat → Rs} (h : RdOk w R) (hb : Below w.heap.size w w') : RdOk w' R := fun i hi => by
  have := h i hi
  unfold LxOk at *
  exact this.below hb
theorem RdOk.up {w : World} {R : Nat → Rs} (h : RdOk w R) (i : Nat) (s : Rs) (hs : LxOk w s.x) : RdOk w (upR R i s) := fun j hj => by
  by_cases e : j = i
  · subst e; rw [upR_same]; exact hs
  · rw [upR_other R _ e]; exact h j hj
def lxZ : Lx := ⟨laZero, none, 0, none, 0⟩
def rsZ : Rs := ⟨lxZ, 0, false⟩
theorem rsZ_ok (w : World) : RdOk w (fun _ => rsZ) := fun i _ => (laZero_own w w.heap.size).at
theorem dbOf_zero : dbOf (fun _ => rsZ) = fun _ => none := by funext i; unfold dbOf; rw [if_neg (by simp [rsZ])]
set_option maxRecDepth 100000 in
theorem rdC_zero : (rdC (fun _ => rsZ)).toArray = Try.zeroCells46 := by kernel_rfl

/-! ### In memory -/
theorem Box.range {w : World} {g : Nat} {cs : List Value} (h : Box w g cs) : w.rangeAt g 0 cs := fun j v hv => by rw [Nat.zero_add]; exact (h j v hv).1
theorem Box.there {w : World} {g : Nat} {cs : List Value} (h : Box w g cs) {n : Nat} (hn : cs.length = n) : w.there g 0 n := fun j hj => by
  have := h j _ (List.getElem?_eq_getElem (by omega))
  rw [Nat.zero_add]
  exact ⟨by rw [this.1]; rfl, this.2⟩
theorem Box.setAll {w : World} {g : Nat} {cs : List Value} (h : Box w g cs) (cs' : List Value) (hl : cs'.length = cs.length) : Box (w.setCells g 0 cs') g cs' := fun i u hu => by
  have h1 := World.rangeAt_setCells_same w g 0 cs' (by rw [hl]; exact h.there rfl) i u hu
  rw [Nat.zero_add] at h1
  refine ⟨h1, ?_⟩
  rw [World.frozen?_setCells]
  exact (h i _ (List.getElem?_eq_getElem (by have := (List.getElem?_eq_some_iff.1 hu).1; omega))).2
theorem Box.farAll {w : World} {g : Nat} {cs : List Value} (h : Box w g cs) (g' o : Nat) (vs : List Value) (hk : g' ≠ g) : Box (w.setCells g' o vs) g cs := fun i u hu => by
  refine ⟨?_, by rw [World.frozen?_setCells]; exact (h i u hu).2⟩
  rw [World.cell?_setCells_out g' vs o w ⟨g, i, none⟩ (fun e _ => absurd e.symm hk)]
  exact (h i u hu).1
theorem below_setCells {W : World} {g : Nat} (hg : W.heap.size ≤ g) : ∀ (vs : List Value) (o : Nat) (w : World), Below W.heap.size W w → Below W.heap.size W (w.setCells g o vs)
  | [], _, _, h => h
  | v :: r, o, w, h => by
    rw [World.setCells]
    exact below_setCells hg r (o + 1) _ (h.setCell (p := ⟨g, o, none⟩) hg v)
/-- All cells of a box stored anew. -/
theorem St.setAll {W w : World} {bs : List (Nat × List Value)} {rs : List (Option Addr × List Value)} (S : St W w bs rs) (i : Nat) (cs' : List Value) {g : Nat} {cs : List Value} (hi : bs[i]? = some (g, cs)) (hl : cs'.length = cs.length) (hg : W.heap.size ≤ g)
    (hd : ∀ x ∈ bs.eraseIdx i, x.1 ≠ g) (bs' : List (Nat × List Value)) (hbs : bs.set i (g, cs') = bs') : St W (w.setCells g 0 cs') bs' rs := by
  subst hbs
  refine ⟨below_setCells hg cs' 0 w S.b, fun k x hx => ?_, S.rd⟩
  by_cases hk : i = k
  · subst hk
    rw [List.getElem?_set_self (by have := (List.getElem?_eq_some_iff.1 hi).1; exact this)] at hx
    injection hx with hx
    subst hx
    exact (S.bx i _ hi).setAll cs' hl
  · rw [List.getElem?_set_ne hk] at hx
    exact (S.bx k x hx).farAll g 0 cs' (fun e => hd x (List.mem_eraseIdx_iff_getElem?.2 ⟨k, fun e' => hk e'.symm, hx⟩) e.symm)

end Go.Proofs.Ytkmpmgojgidcgaa

namespace Go.Proofs.Ytkmpmgojgidcgaa
set_option linter.unusedVariables false
open Go.RowKit Go.Maps Go.Sort

theorem laT : ElemT Try.prog 22 30 (.agg #[.int .i64 0, .int .i64 0, .int .i64 0, .bool false, .slice none 0 0, .slice none 0 0]) 6 80 := ⟨Try.underlying22, by kernel_rfl, rfl, by omega⟩
theorem lxL_one (s : Lx) : ∀ u ∈ lxL s, u.oneCell' = true := by
  intro u hu
  simp only [lxL, List.mem_cons, List.not_mem_nil, or_false] at hu
  rcases hu with e | e | e | e | e | e <;> rw [e] <;> rfl
theorem lxV_append (a b : List Lx) : lxV (a ++ b) = lxV a ++ lxV b := by
  induction a with
  | nil => rfl
  | cons r l ih => simp only [List.cons_append, lxV, ih, List.append_assoc]
theorem Box.belowB {w w' : World} {g B : Nat} {cs : List Value} (h : Box w g cs) (hb : Below B w w') (hg : g < B) : Box w' g cs := fun i u hu => by
  have hk := hb.block g hg
  have := h i u hu
  exact ⟨(World.cell?_of_block (a := ⟨g, i, none⟩) hk).trans this.1, (World.frozen?_of_block (a := ⟨g, i, none⟩) hk).trans this.2⟩
theorem St.belowB {W w w' : World} {bs : List (Nat × List Value)} {rs : List (Option Addr × List Value)} {B : Nat} (S : St W w bs rs) (hb : Below B w w') (hB : W.heap.size ≤ B) (hd : ∀ x ∈ bs, x.1 < B) : St W w' bs rs :=
  ⟨S.b.trans (hb.mono hB), fun i x hx => (S.bx i x hx).belowB hb (hd x (List.mem_of_getElem? hx)), S.rd⟩
def allK (R : Nat → Rs) (k : Nat) : List Lx := ((List.range k).filter fun i => (R i).is).map fun i => (R i).x
abbrev allR (R : Nat → Rs) : List Lx := allK R 64
theorem allK_t {R : Nat → Rs} {k : Nat} (h : (R k).is = true) : allK R (k + 1) = allK R k ++ [(R k).x] := by simp [allK, List.range_succ, List.filter_append, h]
theorem allK_f {R : Nat → Rs} {k : Nat} (h : (R k).is = false) : allK R (k + 1) = allK R k := by simp [allK, List.range_succ, List.filter_append, h]
theorem allK_len (R : Nat → Rs) (k : Nat) : (allK R k).length ≤ k := by
  unfold allK
  rw [List.length_map]
  refine Nat.le_trans (List.length_filter_le _ _) ?_
  simp

set_option maxRecDepth 100000 in
set_option maxHeartbeats 3200000 in
theorem rall_any (w : World) (R : Nat → Rs) : Calls Try.prog 22 #[.agg (rdC R).toArray] w fun e w' => ∃ A c, e = .returned (.slice A (allR R).length c) ∧ w'.ownsRow w.heap.size 30 6 (.slice A (allR R).length c) (allR R).length (lxV (allR R)) ∧ Below w.heap.size w w' := by
  have S := (St.start w).new' (rdC R).toArray 46 w.heap.size (rdC R) rfl (by simp)
  have hsz : w.heap.size + 1 ≤ (w.alloc (.cells (rdC R).toArray 46)).heap.size := by simp
  go_enter Try.func22, Try.ntmps22
  go_upto_region 2 with fail
  generalize World.alloc w _ = w1 at *
  have hown : Hid (w1.ownsRow (w.heap.size + 1) 30 6 (.slice none 0 0) (allK R 0).length (lxV (allK R 0))) := World.ownsRow_nil _ _ _ _
  go_wp2_with fail
  go_loopw [3, 4] (fun v3 v4 wr => ∃ (k : Nat) (A : Option Addr) (c : Nat), v4 = .int .i64 k ∧ v3 = .slice A (allK R k).length c ∧ k ≤ 64 ∧ w.heap.size + 1 ≤ wr.heap.size ∧ Hid (wr.ownsRow (w.heap.size + 1) 30 6 (.slice A (allK R k).length c) (allK R k).length (lxV (allK R k))) ∧ St w wr [(w.heap.size, rdC R)] []) (fun _ v4 _ => 64 - (intOf v4).toNat)
  case atStart => exact ⟨0, none, 0, rfl, rfl, by omega, hsz, hown, S⟩
  case round =>
    clear S hown hsz
    obtain ⟨k, A, c, rfl, rfl, hk, hsz, hown, S⟩ := hrel
    by_cases hkn : k < 64
    · have c0 := S.c 0 k rfl (rdC_is R hkn)
      have hlen := allK_len R k
      obtain ⟨is, his⟩ : ∃ z, (R k).is = z := ⟨_, rfl⟩
      rw [his] at c0
      cases is with
      | false =>
        rw [← allK_f his] at hown ⊢
        clear hlen his
        go_wp2_with fail
        go_round
        case rel => exact ⟨k + 1, A, c, by go_num, rfl, by omega, hsz, hown, S⟩
        case measure => simp [intOf]; omega
      | true =>
        have hsucc := allK_t his
        obtain ⟨s, hs⟩ : ∃ z, (R k).x = z := ⟨_, rfl⟩
        have hat := fun j hj => rdC_at R hkn (j := j) hj
        have x0 := S.c 0 (64 + k * 7 + 0) rfl ((hat 0 (by omega)).trans rfl)
        have x1 := S.c 0 (64 + k * 7 + 1) rfl ((hat 1 (by omega)).trans rfl)
        have x2 := S.c 0 (64 + k * 7 + 2) rfl ((hat 2 (by omega)).trans rfl)
        have x3 := S.c 0 (64 + k * 7 + 3) rfl ((hat 3 (by omega)).trans rfl)
        have x4 := S.c 0 (64 + k * 7 + 4) rfl ((hat 4 (by omega)).trans rfl)
        have x5 := S.c 0 (64 + k * 7 + 5) rfl ((hat 5 (by omega)).trans rfl)
        simp only [Nat.add_zero] at x0
        rw [hs] at x0 x1 x2 x3 x4 x5 hsucc
        have hown2 := own_below hown.out (below_new' wr (.cells #[.int .i64 s.y.o, .int .i64 s.y.s, .int .i64 s.y.a, .bool s.y.ov, .slice s.A s.y.adj.length s.c, .slice s.B s.y.pre.length s.d] 30))
        have rd0 := Rd.lit wr #[.int .i64 s.y.o, .int .i64 s.y.s, .int .i64 s.y.a, .bool s.y.ov, .slice s.A s.y.adj.length s.c, .slice s.B s.y.pre.length s.d] 30
        have S2 := S.alloc (.cells #[.int .i64 s.y.o, .int .i64 s.y.s, .int .i64 s.y.a, .bool s.y.ov, .slice s.A s.y.adj.length s.c, .slice s.B s.y.pre.length s.d] 30)
        have hsz2 : w.heap.size + 1 ≤ (wr.alloc (.cells #[.int .i64 s.y.o, .int .i64 s.y.s, .int .i64 s.y.a, .bool s.y.ov, .slice s.A s.y.adj.length s.c, .slice s.B s.y.pre.length s.d] 30)).heap.size := by simp; omega
        have hl1 : (allK R (k + 1)).length = (allK R k).length + 1 := by rw [hsucc]; simp
        have hl2 : lxV (allK R (k + 1)) = lxV (allK R k) ++ lxL s := by rw [hsucc, lxV_append]; simp [lxV]
        generalize lxV (allK R k) = L at *
        generalize (allK R k).length = n at *
        replace hl1 := Lib.hid hl1
        replace hl2 := Lib.hid hl2
        clear hat hs hsucc hown S his
        go_wp2_with (at_builtin; refine wpList_appB rfl laT (.tmp 13) (.tmp 19) rfl (w.heap.size + 1) rfl hown2 (m := 1) rfl (by simp) rd0 (lxL_one s) (by simp only [maxLen]; omega) (by omega) hsz2 (n + 1) _ rfl rfl ?_; intro v3 w7 hown7 hbel7 hg7 hv7)
        clear x0 x1 x2 x3 x4 x5 c0 rd0 hown2
        replace S2 := S2.belowB hbel7 (by omega) (by simp)
        have hsz7 := Nat.le_trans hsz2 hbel7.size
        rw [← hl1.out, show L ++ [_, _, _, _, _, _] = L ++ lxL s from rfl, ← hl2.out] at hown7
        obtain ⟨A7, c7, rfl, -⟩ := own_rd hown7
        replace hown7 := Lib.hid hown7
        clear hbel7 hg7 hv7 hsz2
        go_wp2_with fail
        go_round
        case rel => exact ⟨k + 1, A7, c7, by go_num, rfl, by omega, hsz7, hown7, S2⟩
        case measure => simp [intOf]; omega
    · obtain rfl : k = 64 := by omega
      go_wp2_with fail
      go_ret
      exact ⟨A, c, rfl, own_mono hown.out (by omega), S.b⟩

end Go.Proofs.Ytkmpmgojgidcgaa
