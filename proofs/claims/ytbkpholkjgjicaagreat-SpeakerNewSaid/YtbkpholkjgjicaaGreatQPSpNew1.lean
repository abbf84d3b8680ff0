/-
  The texts Db3, Db4, Db5, Db6, DbA, DbO, DbNw, one after the other.
-/
import Derived.Test.YtbkpholkjgjicaaGreatQPSpNew0
import Derived.Test.YtbkpholkjgjicaaGreatSameR
namespace Go.Proofs.YtbkpholkjgjicaaGreat
set_option linter.unusedVariables false
open Go.RowKit Go.Maps Go.Sort

/-- What is held for any number. -/
def getO (N : Db) (i : Int) : Option Hd := if 0 ≤ i ∧ i < 64 then N i.toNat else none
def getX (o : Option Hd) : La := match o with | some h => h.x | none => laZero
/-- Sizes that the copies want. -/
def Few33 (N : Db) : Prop := ∀ i h, N i = some h → h.x.adj.length ≤ 1000000 ∧ h.x.pre.length ≤ 1000000
/-- An element that is read, the zero one where there is none. -/
theorem elem_form {w : World} {g b : Nat} {N : Db} (h : DbAt w g b N) (hf : Few33 N) (i : Int) : ∃ M, MapIs w b M ∧ (M i).isSome = (getO N i).isSome ∧ (∃ A c B d l, (M i).getD hdZ = hdV (getX (getO N i)) A c B d l ∧ LaAt w (laV (getX (getO N i)).o (getX (getO N i)).s (getX (getO N i)).a (getX (getO N i)).ov A (getX (getO N i)).adj.length c B (getX (getO N i)).pre.length d) (getX (getO N i))) ∧
    (getX (getO N i)).adj.length ≤ 1000000 ∧ (getX (getO N i)).pre.length ≤ 1000000 := by
  obtain ⟨⟨M, hm, he⟩, hc⟩ := h
  refine ⟨M, hm, ?_⟩
  by_cases hi : 0 ≤ i ∧ i < 64
  · have e1 : getO N i = N i.toNat := by unfold getO; rw [if_pos hi]
    have hei := he i.toNat (by omega)
    rw [Int.toNat_of_nonneg hi.1] at hei
    rw [e1]
    cases hM : M i with
    | none =>
      rw [hM] at hei
      cases hN : N i.toNat with
      | none => exact ⟨rfl, ⟨none, 0, none, 0, 0, rfl, (laZero_own w w.heap.size).at⟩, by simp [getX, laZero], by simp [getX, laZero]⟩
      | some hh => rw [hN] at hei; exact hei.elim
    | some v =>
      rw [hM] at hei
      cases hN : N i.toNat with
      | none => rw [hN] at hei; exact hei.elim
      | some hh =>
        rw [hN] at hei
        obtain ⟨A, c, B, d, rfl, hl⟩ := hei
        exact ⟨rfl, ⟨A, c, B, d, hh.l, rfl, hl.1⟩, (hf _ _ hN).1, (hf _ _ hN).2⟩
  · have e1 : getO N i = none := by unfold getO; rw [if_neg hi]
    have hM : M i = none := by
      cases h2 : M i with
      | none => rfl
      | some v => exact absurd (hm.small (i := i) (by rw [h2]; rfl)) (by omega)
    rw [e1, hM]
    exact ⟨rfl, ⟨none, 0, none, 0, 0, rfl, (laZero_own w w.heap.size).at⟩, by simp [getX, laZero], by simp [getX, laZero]⟩

def GetPost (w : World) (o : Option Hd) (e : Ending) (w' : World) : Prop :=
  ∃ v, e = .returned (.tuple #[v, .bool o.isSome]) ∧ LaOwn w' w.heap.size v (getX o) ∧ Below w.heap.size w w'

set_option maxRecDepth 100000 in
set_option maxHeartbeats 3200000 in
theorem dget_any (w : World) (g b : Nat) (N : Db) (i : Int) (hi : (Lit.int .i64 i).wf = true) (h : DbAt w g b N) (hf : Few33 N) : Calls Tryz.prog 46 #[.pointer (some ⟨g, 0, none⟩), .int .i64 i] w (GetPost w (getO N i)) := by
  obtain ⟨M, hm, hs, ⟨A, c, B, d, l, hv, hl⟩, hb1, hb2⟩ := elem_form h hf i
  have hc := h.cell
  generalize hG : getO N i = G at *
  have S := (St.start w).new' #[.int .i64 0, .int .i64 0, .int .i64 0, .bool false, .slice none 0 0, .slice none 0 0] 52 w.heap.size _ rfl rfl
  have hc1 := cell_later S.b hc
  have L := (hm.below S.b).run_ok hi
  rw [hv, hs] at L
  unfold GetPost
  generalize G.isSome = ok at *
  generalize getX G = x at *
  have C := fun W hb => dclone_any W _ x (hl.below hb) hb1 hb2
  unfold hdV at L
  replace C := Lib.hid C
  clear hl hv hm hs h hf hG hb1 hb2 hi
  have r0 := S.c 0 0 rfl rfl
  have r1 := S.c 0 1 rfl rfl
  have r2 := S.c 0 2 rfl rfl
  have r3 := S.c 0 3 rfl rfl
  have r4 := S.c 0 4 rfl rfl
  have r5 := S.c 0 5 rfl rfl
  go_enter Tryz.func46, Tryz.ntmps46
  go_upto_region 4 with fail
  have S2 := S.new' #[.int .i64 x.o, .int .i64 x.s, .int .i64 x.a, .bool x.ov, .slice A x.adj.length c, .slice B x.pre.length d, .int .i64 l] 156 (w.heap.size + 1) _ (by simp) rfl
  clear r0 r1 r2 r3 r4 r5
  clear L hc1 S hc
  generalize World.alloc (World.alloc _ _) _ = w2 at *
  have a0 := S2.c 0 0 rfl rfl
  have a1 := S2.c 0 1 rfl rfl
  have a2 := S2.c 0 2 rfl rfl
  have a3 := S2.c 0 3 rfl rfl
  have a4 := S2.c 0 4 rfl rfl
  have a5 := S2.c 0 5 rfl rfl
  have a6 := S2.c 0 6 rfl rfl
  go_wp2_with fail
  (with_reducible refine (C.out _ S2.b).mono ?_)
  rintro e w3 ⟨v3, rfl, hown, hb⟩
  have T := (S2.call hb).keepBoxes [(w.heap.size, [.int .i64 0, .int .i64 0, .int .i64 0, .bool false, .slice none 0 0, .slice none 0 0])] (by simp)
  have hsz := S2.b.size
  have hlt := S2.lt 1 rfl (by simp)
  obtain ⟨A1, c1, B1, d1, rfl, o1, o2, hu⟩ := hown
  clear a0 a1 a2 a3 a4 a5 a6
  clear S2 hb C
  have r0 := T.c 0 0 rfl rfl
  have r1 := T.c 0 1 rfl rfl
  have r2 := T.c 0 2 rfl rfl
  have r3 := T.c 0 3 rfl rfl
  have r4 := T.c 0 4 rfl rfl
  have r5 := T.c 0 5 rfl rfl
  have f0 := T.f 0 0 rfl rfl
  have f1 := T.f 0 1 rfl rfl
  have f2 := T.f 0 2 rfl rfl
  have f3 := T.f 0 3 rfl rfl
  have f4 := T.f 0 4 rfl rfl
  have f5 := T.f 0 5 rfl rfl
  have S9 := T.set6 x.o x.s x.a x.ov (.slice A1 x.adj.length c1) (.slice B1 x.pre.length d1) (Nat.le_refl _) (by simp)
  have q1 := own_set6 o1 hlt (.int .i64 x.o) (.int .i64 x.s) (.int .i64 x.a) (.bool x.ov) (.slice A1 x.adj.length c1) (.slice B1 x.pre.length d1)
  have q2 := own_set6 o2 hlt (.int .i64 x.o) (.int .i64 x.s) (.int .i64 x.a) (.bool x.ov) (.slice A1 x.adj.length c1) (.slice B1 x.pre.length d1)
  have hb9 := S9.b
  go_wp2_with fail
  exact bodyPost_ret (v := .tuple #[laV x.o x.s x.a x.ov A1 x.adj.length c1 B1 x.pre.length d1, .bool ok]) (by simp [results, Tryz.results46, go_sem, r0, r1, r2, r3, r4, r5]) rfl ⟨_, rfl, ⟨A1, c1, B1, d1, rfl, own_mono q1 (by omega), own_mono q2 (by omega), hu⟩, hb9⟩

end Go.Proofs.YtbkpholkjgjicaaGreat

namespace Go.Proofs.YtbkpholkjgjicaaGreat
set_option linter.unusedVariables false
open Go.RowKit Go.Maps Go.Sort

/-- n ticks of a held advertisement; whether it expired. -/
def tickH (n : Int) (h : Hd) : Option Hd × Bool :=
  if h.x.a < 3600 then
    if n < 3600 - h.x.a then (some ⟨{ h.x with a := h.x.a + n }, h.l⟩, false)
    else (if 60 ≤ n - (3600 - h.x.a) then none else some ⟨purgeX h.x, 60 - (n - (3600 - h.x.a))⟩, true)
  else (if h.l ≤ n then none else some ⟨h.x, h.l - n⟩, false)
def tickN (n : Int) (N : Db) : Db := fun i => match N i with | some h => (tickH n h).1 | none => none
def expH (n : Int) (o : Option Hd) : Bool := match o with | some h => (tickH n h).2 | none => false
/-- The origins in order. -/
def orgs (N : Db) : List Int := ((List.range 64).map fun (i : Nat) => (i : Int)).filter fun i => (N i.toNat).isSome
def tickL (n : Int) (N : Db) : List Int := (orgs N).filter fun i => expH n (N i.toNat)
/-- What holds of what is held. -/
def DbOk (N : Db) : Prop := ∀ i h, N i = some h → LaValid h.x ∧ h.x.o = (i : Int) ∧ 1 ≤ h.l ∧ h.l ≤ 60
theorem DbOk.few {N : Db} (h : DbOk N) : Few33 N := fun i x e => by
  have := (h i x e).1
  exact ⟨by have := this.2.2.2.1; omega, by have := this.2.2.2.2.1; omega⟩
theorem orgs_mem {N : Db} (i : Int) : i ∈ orgs N ↔ (0 ≤ i ∧ i < 64) ∧ (N i.toNat).isSome = true := by
  unfold orgs
  rw [List.mem_filter, List.mem_map]
  constructor
  · rintro ⟨⟨k, hk, rfl⟩, h⟩
    exact ⟨⟨by omega, by have := List.mem_range.1 hk; omega⟩, h⟩
  · rintro ⟨⟨h0, h1⟩, h⟩
    exact ⟨⟨i.toNat, List.mem_range.2 (by omega), Int.toNat_of_nonneg h0⟩, h⟩
theorem orgs_sorted (N : Db) : (orgs N).Pairwise (· < ·) := by
  unfold orgs
  refine List.Pairwise.filter _ ?_
  rw [List.pairwise_map]
  exact List.pairwise_lt_range.imp fun h => by omega
theorem orgs_len (N : Db) : (orgs N).length ≤ 64 := by
  unfold orgs
  refine Nat.le_trans (List.length_filter_le _ _) ?_
  simp
theorem keysL_orgs {w : World} {b : Nat} {M : Int → Option Value} {N : Db} (hm : MapIs w b M) (he : ∀ i : Nat, i < 64 → ElAt w (M (i : Int)) (N i)) : keysL M = orgs N := by
  unfold keysL orgs
  refine List.filter_congr fun i hi => ?_
  obtain ⟨k, hk, rfl⟩ := List.mem_map.1 hi
  have := he k (List.mem_range.1 hk)
  rw [Int.toNat_natCast]
  cases hM : M (k : Int) with
  | none =>
    rw [hM] at this
    cases hN : N k with
    | none => rfl
    | some x => rw [hN] at this; exact this.elim
  | some v =>
    rw [hM] at this
    cases hN : N k with
    | none => rw [hN] at this; exact this.elim
    | some x => rfl
/-- Behind k of the origins. -/
def midN (n : Int) (N : Db) (k : Nat) : Db := fun j => if (j : Int) ∈ (orgs N).take k then tickN n N j else N j
theorem midN_zero (n : Int) (N : Db) : midN n N 0 = N := by funext j; simp [midN]
theorem midN_end (n : Int) (N : Db) (hN : ∀ i, 64 ≤ i → N i = none) : midN n N (orgs N).length = tickN n N := by
  funext j
  unfold midN
  rw [List.take_length]
  by_cases h : (j : Int) ∈ orgs N
  · rw [if_pos h]
  · rw [if_neg h]
    have : N j = none := by
      cases hj : N j with
      | none => rfl
      | some x =>
        by_cases h6 : j < 64
        · exact absurd ((orgs_mem (N := N) (j : Int)).2 ⟨⟨by omega, by omega⟩, by rw [Int.toNat_natCast, hj]; rfl⟩) h
        · have := hN j (by omega); rw [hj] at this; cases this
    unfold tickN
    rw [this]
theorem midN_succ (n : Int) (N : Db) (k : Nat) (hk : k < (orgs N).length) (q : Nat) (hq : (orgs N)[k] = (q : Int)) : midN n N (k + 1) = fun j => if j = q then tickN n N q else midN n N k j := by
  funext j
  unfold midN
  rw [List.take_succ_eq_append_getElem hk, hq]
  by_cases h : j = q
  · subst h
    rw [if_pos (by simp), if_pos rfl]
  · rw [if_neg h]
    by_cases h2 : (j : Int) ∈ (orgs N).take k
    · rw [if_pos (by simp [h2]), if_pos h2]
    · rw [if_neg (by simp [h2]; omega), if_neg h2]
theorem midN_at (n : Int) (N : Db) (k : Nat) (hk : k < (orgs N).length) (q : Nat) (hq : (orgs N)[k] = (q : Int)) : midN n N k q = N q := by
  unfold midN
  rw [if_neg]
  intro hm
  have hp := orgs_sorted N
  obtain ⟨i, hi, e⟩ := List.getElem_of_mem hm
  rw [List.length_take] at hi
  rw [List.getElem_take] at e
  have := List.pairwise_iff_getElem.1 hp i k (by omega) hk (by omega)
  rw [e, hq] at this
  omega
theorem tickL_take (n : Int) (N : Db) (k : Nat) (hk : k < (orgs N).length) (q : Nat) (hq : (orgs N)[k] = (q : Int)) : ((orgs N).take (k + 1)).filter (fun i => expH n (N i.toNat)) = ((orgs N).take k).filter (fun i => expH n (N i.toNat)) ++ (if expH n (N q) = true then [(q : Int)] else []) := by
  rw [List.take_succ_eq_append_getElem hk, hq, List.filter_append]
  congr 1
  rw [List.filter_cons, Int.toNat_natCast]
  split <;> simp
/-! ### Memory -/
/-- What has turned since w0: the map in block b alone. -/
theorem grown_belowB {w0 w w' : World} {b B : Nat} (h : w0.grownBy w (some b)) (hb : Below B w w') (hB : w0.heap.size ≤ B) : w0.grownBy w' (some b) :=
  ⟨hb.os.trans h.os, hb.tape.trans h.tape, hb.output.trans h.output, Nat.le_trans h.size hb.size, fun k hk hne => (hb.block k (Nat.lt_of_lt_of_le hk hB)).trans (h.block k hk hne)⟩
theorem MapIs.belowB {w w' : World} {b B : Nat} {M : Int → Option Value} (h : MapIs w b M) (hb : Below B w w') (hB : b < B) : MapIs w' b M := by
  obtain ⟨D, ⟨es, clock, h1, h2⟩, hd⟩ := h
  exact ⟨D, ⟨es, clock, (hb.block b hB).trans h1, h2⟩, hd⟩
theorem own_belowB {w w' : World} {base : Nat} {e : TypeId} {size : Nat} {v : Value} {n : Nat} {xs : List Value} {B : Nat} (h : w.ownsRow base e size v n xs) (hb : Below B w w') (hB : ∀ k, v.ownBlock = some k → k < B) : w'.ownsRow base e size v n xs := by
  refine ⟨h.1, ?_⟩
  rcases h.2 with h2 | ⟨g, cap, cur, rfl, hg, hh, r⟩
  · exact .inl h2
  · exact .inr ⟨g, cap, cur, rfl, hg, (hb.block g (hB g rfl)).trans hh, r⟩
theorem own_rowB {w w' : World} {base : Nat} {e : TypeId} {size : Nat} {v : Value} {n : Nat} {xs : List Value} {b : Nat} (h : w.ownsRow base e size v n xs) (hg : w.grownBy w' (some b)) (hB : b < base) : w'.ownsRow base e size v n xs := by
  refine ⟨h.1, ?_⟩
  rcases h.2 with h2 | ⟨g, cap, cur, rfl, hgb, hh, r⟩
  · exact .inl h2
  · exact .inr ⟨g, cap, cur, rfl, hgb, (hg.block g (h.lt g rfl).2 (fun e => by injection e; omega)).trans hh, r⟩
/-- 'delete(m, i)', as an equation. -/
theorem MapIs.run_del {w : World} {b : Nat} {M : Int → Option Value} (h : MapIs w b M) {i : Int} (hi : (Lit.int .i64 i).wf = true) (ty : TypeId) :
    ∃ w', (Builtin.delete_ #[122, 3] ty #[.map (some b), .int .i64 i]).run Tryz.prog w = .ok (.tuple #[]) w' ∧ MapIs w' b (fun j => if j = i then none else M j) ∧ w.grownBy w' (some b) := by
  obtain ⟨D, hown, hd⟩ := h
  obtain ⟨w', hrun, r1, r2⟩ := hown.drop keyI Tryz.underlying122 (keyOfI hi) ty
  exact ⟨w', hrun, .of r1 (hd.del i), r2.grown⟩

end Go.Proofs.YtbkpholkjgjicaaGreat

namespace Go.Proofs.YtbkpholkjgjicaaGreat
set_option linter.unusedVariables false
open Go.RowKit Go.Maps Go.Sort

theorem dorigins_any (w : World) (g b : Nat) (N : Db) (h : DbAt w g b N) : Calls Tryz.prog 78 #[.pointer (some ⟨g, 0, none⟩)] w fun e w' => ∃ A c, e = .returned (.slice A (orgs N).length c) ∧
    w'.ownsRow w.heap.size 3 1 (.slice A (orgs N).length c) (orgs N).length ((orgs N).map encZ) ∧ Below w.heap.size w w' := by
  obtain ⟨⟨M, hm, he⟩, hc⟩ := h
  have hko := keysL_orgs hm he
  obtain ⟨D, hown, hd⟩ := hm
  have hs := size_keys hown hd
  refine (origins_any g b 64 D hdR w hc hown (by unfold maxLen; omega) (by omega)).mono ?_
  rintro e w' ⟨v, ss, he, hp, hrow, hnil, hb⟩
  rw [sort_keys hown hd hp, hko] at hrow
  have hl : ss.length = (orgs N).length := by
    rw [← hko, ← sort_keys hown hd hp, List.length_mergeSort]
  rw [hl] at hrow
  obtain ⟨A, c, rfl, _⟩ := own_rd hrow
  exact ⟨A, c, he, hrow, hb⟩

theorem intT : ElemT Tryz.prog 74 3 (.int .i64 0) 1 8 := ⟨Tryz.underlying74, by kernel_rfl, rfl, by omega⟩
def DTickPost (w : World) (g b : Nat) (N : Db) (n : Int) (e : Ending) (w' : World) : Prop :=
  ∃ v, e = .returned v ∧ w'.ownsRow w.heap.size 3 1 v (tickL n N).length ((tickL n N).map encZ) ∧ DbAt w' g b (tickN n N) ∧ w.grownBy w' (some b)
/-- The state between two rounds. -/
structure TkAt (w wr : World) (g b : Nat) (N : Db) (n : Int) (B : Nat) (v14 v5 : Value) (k : Nat) (es : List Int) : Prop where
  ex : ∃ M, MapIs wr b M ∧ ∀ i : Nat, i < 64 → ElAt w (M (i : Int)) (midN n N k i)
  cell : wr.cell? ⟨g, 0, none⟩ = some (.map (some b))
  gr : w.grownBy wr (some b)
  o14 : wr.ownsRow w.heap.size 3 1 v14 (orgs N).length ((orgs N).map encZ)
  o5 : wr.ownsRow B 3 1 v5 es.length (es.map encZ)
  he : es = ((orgs N).take k).filter (fun i => expH n (N i.toNat))
  sz : B ≤ wr.heap.size

theorem own_far {w : World} {base : Nat} {e : TypeId} {size : Nat} {v : Value} {n : Nat} {xs : List Value} (h : w.ownsRow base e size v n xs) {p : Addr} (hp : ∀ k, v.ownBlock = some k → k ≠ p.block) (u : Value) : (w.setCell p u).ownsRow base e size v n xs := by
  refine ⟨h.1, ?_⟩
  rcases h.2 with h2 | ⟨g, cap, cur, rfl, hg, hh, r⟩
  · exact .inl h2
  · exact .inr ⟨g, cap, cur, rfl, hg, (heap_setCell_other w p g u (fun e => hp g rfl e)).trans hh, r⟩
/-- The state within a round: the box of the held advertisement lies in block g2. -/
structure TkW (w W : World) (g b : Nat) (M : Int → Option Value) (N : Db) (B : Nat) (v14 v5 : Value) (es : List Int) (g2 : Nat) (cs : List Value) : Prop where
  hm : MapIs W b M
  c : W.cell? ⟨g, 0, none⟩ = some (.map (some b))
  gr : w.grownBy W (some b)
  o14 : W.ownsRow w.heap.size 3 1 v14 (orgs N).length ((orgs N).map encZ)
  o5 : W.ownsRow B 3 1 v5 es.length (es.map encZ)
  l14 : ∀ bb, v14.ownBlock = some bb → bb < B
  l5 : ∀ bb, v5.ownBlock = some bb → bb ≠ g2
  bx : Box W g2 cs
  pos : 0 < cs.length
  hB : B ≤ g2
  hw : w.heap.size ≤ B
  hg : g < w.heap.size
  hb : b < w.heap.size
section
variable {w W W' : World} {g b : Nat} {M : Int → Option Value} {N : Db} {B : Nat} {v14 v5 : Value} {es : List Int} {g2 : Nat} {cs : List Value}
theorem TkW.sz (h : TkW w W g b M N B v14 v5 es g2 cs) : B ≤ W.heap.size := Nat.le_trans h.hB (Nat.le_of_lt (h.bx.lt h.pos))
theorem TkW.set (h : TkW w W g b M N B v14 v5 es g2 cs) (j : Nat) (u : Value) (hj : j < cs.length) (cs' : List Value) (hcs : cs.set j u = cs') : TkW w (W.setCell ⟨g2, j, none⟩ u) g b M N B v14 v5 es g2 cs' := by
  subst hcs
  have h1 := h.hB; have h2 := h.hw; have h3 := h.hg; have h4 := h.hb
  refine ⟨h.hm.kept (grownBy_set W g2 j u) (fun e => by injection e; omega), (cell_far u (by intro e; injection e; omega)).trans h.c, ?_, own_far h.o14 (fun k hk => by have := h.l14 k hk; simp only; omega) u, own_far h.o5 (fun k hk => h.l5 k hk) u, h.l14, h.l5, h.bx.set j u hj, by rw [List.length_set]; exact h.pos, h.hB, h.hw, h.hg, h.hb⟩
  have hg := grownBy_set W g2 j u
  refine ⟨hg.os.trans h.gr.os, hg.tape.trans h.gr.tape, hg.output.trans h.gr.output, Nat.le_trans h.gr.size hg.size, fun k hk hne => ?_⟩
  exact (hg.block k (Nat.lt_of_lt_of_le hk h.gr.size) (fun e => by injection e; omega)).trans (h.gr.block k hk hne)
theorem TkW.below (h : TkW w W g b M N B v14 v5 es g2 cs) (hb : Below W.heap.size W W') : TkW w W' g b M N B v14 v5 es g2 cs :=
  ⟨h.hm.below hb, cell_later hb h.c, h.gr.trans (below_row hb _), own_below h.o14 hb, own_below h.o5 hb, h.l14, h.l5, h.bx.later hb, h.pos, h.hB, h.hw, h.hg, h.hb⟩
theorem TkW.drew (h : TkW w W g b M N B v14 v5 es g2 cs) : TkW w W.drew g b M N B v14 v5 es g2 cs := h.below ⟨rfl, rfl, rfl, Nat.le_refl _, fun _ _ => rfl⟩
theorem TkW.app (h : TkW w W g b M N B v14 v5 es g2 cs) {v5' : Value} {es' : List Int} (ho : W'.ownsRow B 3 1 v5' es'.length (es'.map encZ)) (hbel : Below B W W') (hg : W.grownBy W' v5.ownBlock) (hv : v5'.ownBlock = v5.ownBlock ∨ v5'.ownBlock = some W.heap.size) : TkW w W' g b M N B v14 v5' es' g2 cs := by
  have h1 := h.hB; have h2 := h.hw; have h3 := h.hg; have h4 := h.hb
  have hl := h.bx.lt h.pos
  refine ⟨h.hm.belowB hbel (by omega), (hbel.cell (p := ⟨g, 0, none⟩) (by simp only; omega)).trans h.c, grown_belowB h.gr hbel h.hw, own_belowB h.o14 hbel h.l14, ho, h.l14, fun bb e => ?_, h.bx.kept hg (fun e => h.l5 g2 e.symm rfl) h.pos, h.pos, h.hB, h.hw, h.hg, h.hb⟩
  rcases hv with e2 | e2
  · exact h.l5 bb (e2 ▸ e)
  · rw [e2] at e; injection e; omega
/-- Behind the map's turn. -/
theorem TkW.fin (h : TkW w W g b M N B v14 v5 es g2 cs) {w9 : World} (hg9 : W.grownBy w9 (some b)) : w9.cell? ⟨g, 0, none⟩ = some (.map (some b)) ∧ w.grownBy w9 (some b) ∧ w9.ownsRow w.heap.size 3 1 v14 (orgs N).length ((orgs N).map encZ) ∧ w9.ownsRow B 3 1 v5 es.length (es.map encZ) ∧ B ≤ w9.heap.size := by
  have h1 := h.hB; have h2 := h.hw; have h3 := h.hg; have h4 := h.hb
  have hne : g ≠ b := fun e => by have := h.c; rw [e, h.hm.no_cell] at this; cases this
  refine ⟨?_, h.gr.trans hg9, own_rowB h.o14 hg9 h.hb, own_rowB h.o5 hg9 (by omega), Nat.le_trans h.sz hg9.size⟩
  rw [World.cell?_of_block (a := ⟨g, 0, none⟩) (hg9.block g (World.block_lt_of_cell? _ _ h.c) (fun e => hne (by injection e)))]
  exact h.c
end

set_option maxRecDepth 100000 in
set_option maxHeartbeats 12800000 in
theorem dtick_any (w : World) (g b : Nat) (N : Db) (n : Int) (h : DbAt w g b N) (hok : DbOk N) (hN : ∀ i, 64 ≤ i → N i = none) (hn0 : 0 < n) (hn : n ≤ 1000000) :
    Calls Tryz.prog 45 #[.pointer (some ⟨g, 0, none⟩), .int .i64 n] w (DTickPost w g b N n) := by
  have O := dorigins_any w g b N h
  have hgb := h.ne
  obtain ⟨hgl, hbl⟩ := h.lt
  have hlen := orgs_len N
  have hfin : Hid (∀ (wr : World) (B : Nat) (v14 v5 : Value) (es : List Int), w.heap.size ≤ B → TkAt w wr g b N n B v14 v5 (orgs N).length es → DTickPost w g b N n (.returned v5) wr) := fun wr B v14 v5 es hB T => by
    obtain ⟨M, hm, he⟩ := T.ex
    rw [midN_end n N hN] at he
    have e2 : es = tickL n N := by rw [T.he, List.take_length]; rfl
    refine ⟨v5, rfl, ?_, ⟨⟨M, hm, fun i hi => ?_⟩, T.cell⟩, T.gr⟩
    · rw [← e2]; exact own_mono T.o5 hB
    · have hmw := h.ex
      obtain ⟨M0, hm0, _⟩ := hmw
      exact (he i hi).keptMap hm0 T.gr
  obtain ⟨⟨M, hm, he⟩, hc⟩ := id h
  replace O := Lib.hid O
  go_enter Tryz.func45, Tryz.ntmps45
  go_wp2_with fail
  (with_reducible refine (O.out).mono ?_)
  rintro e w1 ⟨A, c, rfl, o14, hb⟩
  clear O
  have hT : TkAt w w1 g b N n w1.heap.size (.slice A (orgs N).length c) (.slice none 0 0) 0 [] :=
    ⟨⟨M, hm.below hb, fun i hi => by rw [midN_zero]; exact he i hi⟩, cell_later hb hc, below_row hb _, o14, World.ownsRow_nil _ _ _ _, by simp, Nat.le_refl _⟩
  have hlt14 : Hid (∀ bb, (Value.slice A (orgs N).length c).ownBlock = some bb → bb < w1.heap.size) := fun bb e => (o14.lt bb e).2
  have hw1 := hb.size
  replace hm := Lib.hid hm
  clear o14 hb he hc h
  generalize hB : w1.heap.size = B at *
  clear hB
  replace hT := Lib.hid hT
  replace hN := Lib.hid hN
  replace hok := Lib.hid hok
  generalize hL : (orgs N).length = len at *
  replace hL := Lib.hid hL
  go_wp2_with fail
  go_loopw [5, 16] (fun v5 v16 wr => ∃ (k : Nat) (es : List Int), v16 = .int .i64 k ∧ k ≤ len ∧ es.length ≤ k ∧ Hid (TkAt w wr g b N n B (.slice A len c) v5 k es)) (fun _ v16 _ => len - (intOf v16).toNat)
  case atStart => exact ⟨0, [], rfl, by omega, by simp, hT⟩
  case round =>
    clear hT
    obtain ⟨k, es, rfl, hk, hes, hT⟩ := hrel
    by_cases hkn : k < len
    · have hkl : k < (orgs N).length := by rw [hL.out]; exact hkn
      obtain ⟨⟨Mk, hmk, hek⟩, hck, hgr, ho14, ho5, hes2, hsz⟩ := hT.out
      have hmem := (orgs_mem (N := N) (orgs N)[k]).1 (List.getElem_mem hkl)
      obtain ⟨q, hq⟩ := Int.eq_ofNat_of_zero_le hmem.1.1
      have hq64 : q < 64 := by have := hmem.1.2; omega
      obtain ⟨hh, hNq⟩ : ∃ hh, N q = some hh := by
        have := hmem.2
        rw [hq, Int.toNat_natCast] at this
        exact Option.isSome_iff_exists.1 this
      have hat := midN_at n N k hkl q hq
      have hsucc := midN_succ n N k hkl q hq
      have htake := tickL_take n N k hkl q hq
      have heq := hek q hq64
      rw [hat, hNq] at heq
      obtain ⟨Mv, hMv⟩ : ∃ Mv, Mk (q : Int) = Mv := ⟨_, rfl⟩
      rw [hMv] at heq
      cases Mv with
      | none => exact heq.elim
      | some vv =>
      obtain ⟨A2, c2, B2, d2, rfl, hla⟩ := heq
      obtain ⟨hva, hxo, hl1, hl2⟩ := hok.out q hh hNq
      have hage := hva.2.2.1
      have ho14b := ho14
      rw [hL.out] at ho14b
      have r14 := own_slice ho14b
      clear ho14b
      have L := hmk.run_at (i := (q : Int)) (wf64 (by omega) (by omega))
      rw [hMv] at L
      simp only [Option.getD_some] at L
      unfold hdV at L
      obtain ⟨b14, off14, rfl, hz14⟩ := rd_at r14 (by simpa using Nat.lt_of_le_of_lt (Nat.zero_le _) hkl)
      have z14 : wr.cell? ⟨b14, off14 + k, none⟩ = some (.int .i64 (q : Int)) := hz14 k _ (by rw [List.getElem?_map, List.getElem?_eq_getElem hkl, hq]; rfl)
      clear hz14 r14
      have hnext : Hid (∀ (wr' : World) (v5' : Value) (es' : List Int) (Mn : Int → Option Value), MapIs wr' b (fun j => if j = (q : Int) then Mn q else Mk j) → ElAt w (Mn q) (tickN n N q) → wr'.cell? ⟨g, 0, none⟩ = some (.map (some b)) → w.grownBy wr' (some b) →
          wr'.ownsRow w.heap.size 3 1 (.slice (some ⟨b14, off14, none⟩) len c) (orgs N).length ((orgs N).map encZ) → wr'.ownsRow B 3 1 v5' es'.length (es'.map encZ) → es' = es ++ (if expH n (N q) = true then [(q : Int)] else []) → B ≤ wr'.heap.size →
          TkAt w wr' g b N n B (.slice (some ⟨b14, off14, none⟩) len c) v5' (k + 1) es') := fun wr' v5' es' Mn h1 h2 h3 h4 h5 h6 h7 h8 => by
        refine ⟨⟨_, h1, fun i hi => ?_⟩, h3, h4, h5, h6, by rw [h7, htake, ← hes2], h8⟩
        rw [hsucc]
        by_cases e : i = q
        · subst e; simp only [if_true]; exact h2
        · have e' : ¬ (i : Int) = (q : Int) := by omega
          simp only [if_neg e, if_neg e']
          exact hek i hi
      clear hsucc htake hat hek hmem hq hkl hT
      replace hes2 := Lib.hid hes2
      replace hMv := Lib.hid hMv
      replace hxo := Lib.hid hxo
      replace hNq := Lib.hid hNq
      have htk : Hid (tickN n N q = (tickH n hh).1 ∧ expH n (N q) = (tickH n hh).2) := by
        show _ ∧ _
        unfold tickN expH
        rw [hNq.out]
        exact ⟨rfl, rfl⟩
      have b9 := below_new' wr (.cells #[.int .i64 hh.x.o, .int .i64 hh.x.s, .int .i64 hh.x.a, .bool hh.x.ov, .slice A2 hh.x.adj.length c2, .slice B2 hh.x.pre.length d2, .int .i64 hh.l] 156)
      have hT0 : TkW w (wr.alloc (.cells #[.int .i64 hh.x.o, .int .i64 hh.x.s, .int .i64 hh.x.a, .bool hh.x.ov, .slice A2 hh.x.adj.length c2, .slice B2 hh.x.pre.length d2, .int .i64 hh.l] 156)) g b Mk N B (.slice (some ⟨b14, off14, none⟩) len c) u5 es wr.heap.size [.int .i64 hh.x.o, .int .i64 hh.x.s, .int .i64 hh.x.a, .bool hh.x.ov, .slice A2 hh.x.adj.length c2, .slice B2 hh.x.pre.length d2, .int .i64 hh.l] :=
        ⟨hmk.below b9, cell_later b9 hck, hgr.trans (below_row b9 (some b)), own_below ho14 b9, own_below ho5 b9, hlt14.out, fun bb e => by have := (ho5.lt bb e).2; omega, Box.new' wr #[.int .i64 hh.x.o, .int .i64 hh.x.s, .int .i64 hh.x.a, .bool hh.x.ov, .slice A2 hh.x.adj.length c2, .slice B2 hh.x.pre.length d2, .int .i64 hh.l] 156 wr.heap.size _ rfl rfl, by simp, hsz, hw1, hgl, hbl⟩
      go_upto_region 9 with fail
      clear z14 L hmk hck hgr ho14 ho5 hsz b9
      generalize wr.alloc _ = w2 at *
      generalize wr.heap.size = g2 at *
      by_cases hA : hh.x.a < 3600
      · by_cases hB1 : n < 3600 - hh.x.a
        · have hval : tickH n hh = (some ⟨{ hh.x with a := hh.x.a + n }, hh.l⟩, false) := by unfold tickH; rw [if_pos hA, if_pos hB1]
          have e1 := htk.out.1
          have e2 := htk.out.2
          rw [hval] at e1 e2
          have hel : Hid (ElAt w (some (.agg #[.int .i64 hh.x.o, .int .i64 hh.x.s, .int .i64 (hh.x.a + n), .bool hh.x.ov, .slice A2 hh.x.adj.length c2, .slice B2 hh.x.pre.length d2, .int .i64 hh.l])) (tickN n N q)) := by
            show ElAt _ _ _
            rw [e1]
            exact ⟨A2, c2, B2, d2, rfl, hla.renum hh.x.o hh.x.s (hh.x.a + n) hh.x.ov⟩
          have e3 : Hid (es = es ++ (if expH n (N q) = true then [(q : Int)] else [])) := by show _ = _; rw [e2]; simp
          have a2 := hT0.bx.c 2 rfl
          have f2 := hT0.bx.f 2 rfl
          have hT1 := hT0.set 2 (.int .i64 (hh.x.a + n)) (by simp) [.int .i64 hh.x.o, .int .i64 hh.x.s, .int .i64 (hh.x.a + n), .bool hh.x.ov, .slice A2 hh.x.adj.length c2, .slice B2 hh.x.pre.length d2, .int .i64 hh.l] rfl
          clear e1 e2 hval htk hla
          go_upto_region 12 with fail
          clear a2 f2 hT0
          generalize World.setCell _ _ _ = w3 at *
          have TD := hT1.drew
          have c1 := TD.c
          have y0 := TD.bx.c 0 rfl
          have y1 := TD.bx.c 1 rfl
          have y2 := TD.bx.c 2 rfl
          have y3 := TD.bx.c 3 rfl
          have y4 := TD.bx.c 4 rfl
          have y5 := TD.bx.c 5 rfl
          have y6 := TD.bx.c 6 rfl
          obtain ⟨w9, run9, hm9, hg9⟩ := TD.hm.run_put (i := (q : Int)) (by omega) (by omega) (.agg #[.int .i64 hh.x.o, .int .i64 hh.x.s, .int .i64 (hh.x.a + n), .bool hh.x.ov, .slice A2 hh.x.adj.length c2, .slice B2 hh.x.pre.length d2, .int .i64 hh.l])
          obtain ⟨t1, t2, t3, t4, t5⟩ := TD.fin hg9
          have hT9 := hnext.out w9 u5 es (fun _ => some (.agg #[.int .i64 hh.x.o, .int .i64 hh.x.s, .int .i64 (hh.x.a + n), .bool hh.x.ov, .slice A2 hh.x.adj.length c2, .slice B2 hh.x.pre.length d2, .int .i64 hh.l])) hm9 (hel.out) t1 t2 t3 t4 (e3.out) t5
          replace hT9 := Lib.hid hT9
          clear hm9 hg9 t1 t2 t3 t4 t5 TD hT1
          go_region_law (fail)
          all_goals
            clear run9 y0 y1 y2 y3 y4 y5 y6 c1
            go_wp2_with fail
            go_round
            case rel => exact ⟨k + 1, es, by go_num, by omega, by omega, hT9⟩
            case measure => simp [intOf]; omega
        · have e1 := htk.out.1
          have e2 := htk.out.2
          have hval : tickH n hh = (if 60 ≤ n - (3600 - hh.x.a) then none else some ⟨purgeX hh.x, 60 - (n - (3600 - hh.x.a))⟩, true) := by unfold tickH; rw [if_pos hA, if_neg hB1]
          rw [hval] at e1 e2
          simp only at e1 e2
          have e3 : Hid (es ++ [(q : Int)] = es ++ (if expH n (N q) = true then [(q : Int)] else [])) := by show _ = _; rw [e2]; simp
          have P0 := lpurge_any w2 _ hh.x (hla.keptMap hm.out hT0.gr).1
          unfold PurgePost purgeE purgeV at P0
          rw [vB_t hva, if_pos rfl, if_pos rfl] at P0
          have P : Calls Tryz.prog 82 #[laV hh.x.o hh.x.s hh.x.a hh.x.ov A2 hh.x.adj.length c2 B2 hh.x.pre.length d2] w2 (fun e w' => ∃ A3 c3 B3 d3, e = .returned (.tuple #[laV hh.x.o hh.x.s 3600 false A3 0 c3 B3 0 d3, .int .i64 0]) ∧ LaAt w (laV hh.x.o hh.x.s 3600 false A3 0 c3 B3 0 d3) (purgeX hh.x) ∧ Below w2.heap.size w2 w') := P0.mono (by
            rintro e w' ⟨v3, he, ⟨A3, c3, B3, d3, rfl, o1, o2, hu⟩, hb⟩
            obtain ⟨A8, c8, e8, _, l8, m8⟩ := own_rd o1
            obtain ⟨A9, c9, e9, _, l9, m9⟩ := own_rd o2
            injection e8 with e8 e8' e8''
            injection e9 with e9 e9' e9''
            subst e8 e8'' e9 e9''
            exact ⟨A3, c3, B3, d3, he, ⟨A3, c3, B3, d3, rfl, Rd.nil _ _, Rd.nil _ _, by simp [purgeX], m8, by simp [purgeX], m9, by simp [purgeX]⟩, hb⟩)
          clear P0
          replace P := Lib.hid P
          replace e1 := Lib.hid e1
          clear e2 hval htk hla
          obtain ⟨rest, hrest⟩ : ∃ z, n - (3600 - hh.x.a) = z := ⟨_, rfl⟩
          have hr0 : 0 ≤ rest := by omega
          have hr1 : rest ≤ 1000000 := by omega
          have a0 := hT0.bx.c 0 rfl
          have a1 := hT0.bx.c 1 rfl
          have a2 := hT0.bx.c 2 rfl
          have a3 := hT0.bx.c 3 rfl
          have a4 := hT0.bx.c 4 rfl
          have a5 := hT0.bx.c 5 rfl
          rw [hrest] at e1
          go_upto_region 14 with fail
          clear hrest
          go_wp2_with fail
          (with_reducible refine (P.out).mono ?_)
          rintro e w3 ⟨A3, c3, B3, d3, rfl, hl3, hb⟩
          replace hl3 := Lib.hid hl3
          have hT1 := hT0.below hb
          clear P a0 a1 a2 a3 a4 a5 hT0 hb
          have hT2 := ((((((hT1.set 0 (.int .i64 hh.x.o) (by simp) _ rfl).set 1 (.int .i64 hh.x.s) (by simp) _ rfl).set 2 (.int .i64 3600) (by simp) _ rfl).set 3 (.bool false) (by simp) _ rfl).set 4 (.slice A3 0 c3) (by simp) _ rfl).set 5 (.slice B3 0 d3) (by simp) [.int .i64 hh.x.o, .int .i64 hh.x.s, .int .i64 3600, .bool false, .slice A3 0 c3, .slice B3 0 d3, .int .i64 hh.l] rfl)
          have a0 := hT1.bx.c 0 rfl
          have a1 := hT1.bx.c 1 rfl
          have a2 := hT1.bx.c 2 rfl
          have a3 := hT1.bx.c 3 rfl
          have a4 := hT1.bx.c 4 rfl
          have a5 := hT1.bx.c 5 rfl
          have f0 := hT1.bx.f 0 rfl
          have f1 := hT1.bx.f 1 rfl
          have f2 := hT1.bx.f 2 rfl
          have f3 := hT1.bx.f 3 rfl
          have f4 := hT1.bx.f 4 rfl
          have f5 := hT1.bx.f 5 rfl
          go_upto_region 15 with fail
          clear a0 a1 a2 a3 a4 a5 f0 f1 f2 f3 f4 f5 hT1
          generalize World.setCell _ _ _ = w4 at *
          have a6 := hT2.bx.c 6 rfl
          have f6 := hT2.bx.f 6 rfl
          have hT3 := hT2.set 6 (.int .i64 60) (by simp) [.int .i64 hh.x.o, .int .i64 hh.x.s, .int .i64 3600, .bool false, .slice A3 0 c3, .slice B3 0 d3, .int .i64 60] rfl
          go_upto_region 16 with fail
          clear a6 f6 hT2
          generalize World.setCell _ _ _ = w5 at *
          have hT4 := hT3.below (below_new' w5 (.cells #[.int .i64 (q : Int)] 3))
          have rd0 := Rd.lit w5 #[.int .i64 (q : Int)] 3
          have o5 := hT4.o5
          have hsz4 := hT4.sz
          have hes64 : es.length ≤ 64 := by omega
          clear hT3
          by_cases hR : 60 ≤ rest
          · have e4 : Hid (ElAt w none (tickN n N q)) := by show ElAt _ _ _; rw [e1.out, if_pos hR]; trivial
            clear e1
            go_wp2_with (at_builtin; refine wpList_appB rfl intT (.tmp 64) (.tmp 66) rfl B rfl o5 (m := 1) rfl (by simp) rd0 (by simp [Value.oneCell']) (by simp only [maxLen]; omega) (by omega) hsz4 (es.length + 1) ((es ++ [(q : Int)]).map encZ) rfl (by simp) ?_; intro v6 w6 o6 hbel6 hg6 hv6; have hT5 := hT4.app (es' := es ++ [(q : Int)]) (by rw [List.length_append]; exact o6) hbel6 hg6 hv6; have a6 := hT5.bx.c 6 rfl; clear o6 hbel6 hg6 hv6; have c1 := hT5.c; obtain ⟨w9, run9, hm9, hg9⟩ := hT5.hm.run_del (i := (q : Int)) (wf64 (by omega) (by omega)) 0)
            obtain ⟨t1, t2, t3, t4, t5⟩ := hT5.fin hg9
            have hT9 := hnext.out w9 v6 (es ++ [(q : Int)]) (fun _ => none) hm9 (e4.out) t1 t2 t3 t4 (e3.out) t5
            replace hT9 := Lib.hid hT9
            clear hm9 hg9 t1 t2 t3 t4 t5
            go_wp2_with fail
            go_round
            case rel => exact ⟨k + 1, (es ++ [(q : Int)]), by go_num, by omega, by rw [List.length_append, List.length_singleton]; omega, hT9⟩
            case measure => simp [intOf]; omega
          · have e4 : Hid (ElAt w (some (.agg #[.int .i64 hh.x.o, .int .i64 hh.x.s, .int .i64 3600, .bool false, .slice A3 0 c3, .slice B3 0 d3, .int .i64 (60 - rest)])) (tickN n N q)) := by
              show ElAt _ _ _
              rw [e1.out, if_neg hR]
              exact ⟨A3, c3, B3, d3, rfl, hl3.out, fun h => absurd h (by simp [purgeX]), fun h => absurd h (by simp [purgeX])⟩
            clear e1
            go_wp2_with (at_builtin; refine wpList_appB rfl intT (.tmp 64) (.tmp 66) rfl B rfl o5 (m := 1) rfl (by simp) rd0 (by simp [Value.oneCell']) (by simp only [maxLen]; omega) (by omega) hsz4 (es.length + 1) ((es ++ [(q : Int)]).map encZ) rfl (by simp) ?_; intro v6 w6 o6 hbel6 hg6 hv6; have hT5 := hT4.app (es' := es ++ [(q : Int)]) (by rw [List.length_append]; exact o6) hbel6 hg6 hv6; have a6 := hT5.bx.c 6 rfl; clear o6 hbel6 hg6 hv6; have f6 := hT5.bx.f 6 rfl)
            have hT6 := hT5.set 6 (.int .i64 (60 - rest)) (by simp) [.int .i64 hh.x.o, .int .i64 hh.x.s, .int .i64 3600, .bool false, .slice A3 0 c3, .slice B3 0 d3, .int .i64 (60 - rest)] rfl
            clear a6 f6 hT5 hT4 o5 rd0
            generalize World.setCell _ _ _ = w7 at *
            have TD := hT6.drew
            have c1 := TD.c
            have y0 := TD.bx.c 0 rfl
            have y1 := TD.bx.c 1 rfl
            have y2 := TD.bx.c 2 rfl
            have y3 := TD.bx.c 3 rfl
            have y4 := TD.bx.c 4 rfl
            have y5 := TD.bx.c 5 rfl
            have y6 := TD.bx.c 6 rfl
            obtain ⟨w9, run9, hm9, hg9⟩ := TD.hm.run_put (i := (q : Int)) (by omega) (by omega) (.agg #[.int .i64 hh.x.o, .int .i64 hh.x.s, .int .i64 3600, .bool false, .slice A3 0 c3, .slice B3 0 d3, .int .i64 (60 - rest)])
            obtain ⟨t1, t2, t3, t4, t5⟩ := TD.fin hg9
            have hT9 := hnext.out w9 v6 (es ++ [(q : Int)]) (fun _ => some (.agg #[.int .i64 hh.x.o, .int .i64 hh.x.s, .int .i64 3600, .bool false, .slice A3 0 c3, .slice B3 0 d3, .int .i64 (60 - rest)])) hm9 (e4.out) t1 t2 t3 t4 (e3.out) t5
            replace hT9 := Lib.hid hT9
            clear hm9 hg9 t1 t2 t3 t4 t5 TD hT6
            go_region_law (fail)
            all_goals
              clear run9 y0 y1 y2 y3 y4 y5 y6 c1
              go_wp2_with fail
              go_round
              case rel => exact ⟨k + 1, (es ++ [(q : Int)]), by go_num, by omega, by rw [List.length_append, List.length_singleton]; omega, hT9⟩
              case measure => simp [intOf]; omega
      · have hval : tickH n hh = (if hh.l ≤ n then none else some ⟨hh.x, hh.l - n⟩, false) := by unfold tickH; rw [if_neg hA]
        have e1 := htk.out.1
        have e2 := htk.out.2
        rw [hval] at e1 e2
        simp only at e1 e2
        have e3 : Hid (es = es ++ (if expH n (N q) = true then [(q : Int)] else [])) := by show _ = _; rw [e2]; simp
        have a2 := hT0.bx.c 2 rfl
        have a6 := hT0.bx.c 6 rfl
        by_cases hR : hh.l ≤ n
        · have e4 : Hid (ElAt w none (tickN n N q)) := by show ElAt _ _ _; rw [e1, if_pos hR]; trivial
          clear e1 e2 hval htk hla
          obtain ⟨w9, run9, hm9, hg9⟩ := hT0.hm.run_del (i := (q : Int)) (wf64 (by omega) (by omega)) 0
          obtain ⟨t1, t2, t3, t4, t5⟩ := hT0.fin hg9
          have hT9 := hnext.out w9 u5 es (fun _ => none) hm9 (e4.out) t1 t2 t3 t4 (e3.out) t5
          replace hT9 := Lib.hid hT9
          have c1 := hT0.c
          clear hm9 hg9 t1 t2 t3 t4 t5
          go_wp2_with fail
          go_round
          case rel => exact ⟨k + 1, es, by go_num, by omega, by omega, hT9⟩
          case measure => simp [intOf]; omega
        · have e4 : Hid (ElAt w (some (.agg #[.int .i64 hh.x.o, .int .i64 hh.x.s, .int .i64 hh.x.a, .bool hh.x.ov, .slice A2 hh.x.adj.length c2, .slice B2 hh.x.pre.length d2, .int .i64 (hh.l - n)])) (tickN n N q)) := by
            show ElAt _ _ _
            rw [e1, if_neg hR]
            exact ⟨A2, c2, B2, d2, rfl, hla⟩
          clear e1 e2 hval htk hla
          have f6 := hT0.bx.f 6 rfl
          have hT1 := hT0.set 6 (.int .i64 (hh.l - n)) (by simp) [.int .i64 hh.x.o, .int .i64 hh.x.s, .int .i64 hh.x.a, .bool hh.x.ov, .slice A2 hh.x.adj.length c2, .slice B2 hh.x.pre.length d2, .int .i64 (hh.l - n)] rfl
          go_upto_region 20 with fail
          clear a2 a6 f6 hT0
          generalize World.setCell _ _ _ = w3 at *
          have TD := hT1.drew
          have c1 := TD.c
          have y0 := TD.bx.c 0 rfl
          have y1 := TD.bx.c 1 rfl
          have y2 := TD.bx.c 2 rfl
          have y3 := TD.bx.c 3 rfl
          have y4 := TD.bx.c 4 rfl
          have y5 := TD.bx.c 5 rfl
          have y6 := TD.bx.c 6 rfl
          obtain ⟨w9, run9, hm9, hg9⟩ := TD.hm.run_put (i := (q : Int)) (by omega) (by omega) (.agg #[.int .i64 hh.x.o, .int .i64 hh.x.s, .int .i64 hh.x.a, .bool hh.x.ov, .slice A2 hh.x.adj.length c2, .slice B2 hh.x.pre.length d2, .int .i64 (hh.l - n)])
          obtain ⟨t1, t2, t3, t4, t5⟩ := TD.fin hg9
          have hT9 := hnext.out w9 u5 es (fun _ => some (.agg #[.int .i64 hh.x.o, .int .i64 hh.x.s, .int .i64 hh.x.a, .bool hh.x.ov, .slice A2 hh.x.adj.length c2, .slice B2 hh.x.pre.length d2, .int .i64 (hh.l - n)])) hm9 (e4.out) t1 t2 t3 t4 (e3.out) t5
          replace hT9 := Lib.hid hT9
          clear hm9 hg9 t1 t2 t3 t4 t5 TD hT1
          go_region_law (fail)
          all_goals
            clear run9 y0 y1 y2 y3 y4 y5 y6 c1
            go_wp2_with fail
            go_round
            case rel => exact ⟨k + 1, es, by go_num, by omega, by omega, hT9⟩
            case measure => simp [intOf]; omega
    · obtain rfl : k = len := by omega
      have hf := hfin.out _ _ _ _ _ hw1 hT.out
      replace hf := Lib.hid hf
      clear hT
      go_wp2_with fail
      go_ret
      exact hf.out

end Go.Proofs.YtbkpholkjgjicaaGreat

namespace Go.Proofs.YtbkpholkjgjicaaGreat
set_option linter.unusedVariables false
open Go.RowKit Go.Maps Go.Sort

set_option maxRecDepth 100000 in
set_option maxHeartbeats 800000 in
theorem dinstall_nil (w : World) (v : Value) (x : La) (h : LaAt w v x) : Calls Tryz.prog 71 #[.pointer none, v] w fun e w' => e = .returned (.tuple #[.int .i64 0, .int .i64 7]) ∧ Below w.heap.size w w' := by
  obtain ⟨A, c, B, d, rfl⟩ := h.form
  have hb := below_new' w (.cells #[.int .i64 x.o, .int .i64 x.s, .int .i64 x.a, .bool x.ov, .slice A x.adj.length c, .slice B x.pre.length d] 52)
  go_enter Tryz.func71, Tryz.ntmps71
  go_wp2_with fail
  go_ret2
  exact ⟨rfl, hb⟩

set_option maxRecDepth 100000 in
set_option maxHeartbeats 800000 in
theorem dget_nil (w : World) (i : Int) : Calls Tryz.prog 46 #[.pointer none, .int .i64 i] w fun e w' => e = .returned (.tuple #[laV 0 0 0 false none 0 0 none 0 0, .bool false]) ∧ Below w.heap.size w w' := by
  have S := (St.start w).new' #[.int .i64 0, .int .i64 0, .int .i64 0, .bool false, .slice none 0 0, .slice none 0 0] 52 w.heap.size _ rfl rfl
  have r0 := S.c 0 0 rfl rfl
  have r1 := S.c 0 1 rfl rfl
  have r2 := S.c 0 2 rfl rfl
  have r3 := S.c 0 3 rfl rfl
  have r4 := S.c 0 4 rfl rfl
  have r5 := S.c 0 5 rfl rfl
  have f0 := S.f 0 0 rfl rfl
  have f1 := S.f 0 1 rfl rfl
  have f2 := S.f 0 2 rfl rfl
  have f3 := S.f 0 3 rfl rfl
  have f4 := S.f 0 4 rfl rfl
  have f5 := S.f 0 5 rfl rfl
  have hb := S.b
  go_enter Tryz.func46, Tryz.ntmps46
  go_wp2_with fail
  exact bodyPost_ret (v := .tuple #[laV 0 0 0 false none 0 0 none 0 0, .bool false]) (by simp [results, Tryz.results46, go_sem, r0, r1, r2, r3, r4, r5]) rfl ⟨rfl, hb⟩

set_option maxRecDepth 100000 in
set_option maxHeartbeats 800000 in
theorem dorigins_nil (w : World) : Calls Tryz.prog 78 #[.pointer none] w fun e w' => e = .returned (.slice none 0 0) ∧ w = w' := by
  go_enter Tryz.func78, Tryz.ntmps78
  go_wp2_with fail
  go_ret
  exact ⟨rfl, rfl⟩

set_option maxRecDepth 100000 in
set_option maxHeartbeats 1600000 in
theorem dtick_nil (w : World) : Calls Tryz.prog 45 #[.pointer none, .int .i64 1] w fun e w' => e = .returned (.slice none 0 0) ∧ Below w.heap.size w w' := by
  have hb := Below.refl w.heap.size w
  go_enter Tryz.func45, Tryz.ntmps45
  go_wp2_with fail
  (with_reducible refine (dorigins_nil _).mono ?_)
  rintro e w1 ⟨rfl, rfl⟩
  go_wp2_with fail
  go_loopw [5, 16] (fun v5 v16 wr => v5 = .slice none 0 0 ∧ v16 = .int .i64 0 ∧ wr = w) (fun _ _ _ => 0)
  case atStart => exact ⟨rfl, rfl, rfl⟩
  case round =>
    obtain ⟨rfl, rfl, rfl⟩ := hrel
    go_wp2_with fail
    go_ret
    exact ⟨rfl, hb⟩

set_option maxRecDepth 100000 in
set_option maxHeartbeats 1600000 in
theorem dall_nil (w : World) : Calls Tryz.prog 41 #[.pointer none] w fun e w' => e = .returned (.slice none 0 0) ∧ Below w.heap.size w w' := by
  have hb := Below.refl w.heap.size w
  go_enter Tryz.func41, Tryz.ntmps41
  go_wp2_with fail
  (with_reducible refine (dorigins_nil _).mono ?_)
  rintro e w1 ⟨rfl, rfl⟩
  go_wp2_with fail
  go_loopw [3, 9] (fun v5 v16 wr => v5 = .slice none 0 0 ∧ v16 = .int .i64 0 ∧ wr = w) (fun _ _ _ => 0)
  case atStart => exact ⟨rfl, rfl, rfl⟩
  case round =>
    obtain ⟨rfl, rfl, rfl⟩ := hrel
    go_wp2_with fail
    go_ret
    exact ⟨rfl, hb⟩

end Go.Proofs.YtbkpholkjgjicaaGreat

namespace Go.Proofs.YtbkpholkjgjicaaGreat
set_option linter.unusedVariables false
open Go.RowKit Go.Maps Go.Sort

theorem below_via {B : Nat} {w0 w w' : World} {g : Nat} (h : Below B w0 w) (hg : w.grownBy w' (some g)) (hB : B ≤ g) (hs : B ≤ w.heap.size) : Below B w0 w' := h.grown hg hs (fun k hk => by injection hk with hk; omega)
theorem equB_refl' (x : La) : equB x x = true := by simp [equB, sameB, conB]
/-- An advertisement without adjacencies and prefixes. -/
def bare (o s a : Int) (ov : Bool) : La := ⟨o, s, a, ov, [], []⟩
theorem bare_at (w : World) (o s a : Int) (ov : Bool) : LaAt w (laV o s a ov none 0 0 none 0 0) (bare o s a ov) := ⟨none, 0, none, 0, rfl, Rd.nil _ _, Rd.nil _ _, by simp [bare], by simp [maxLen], by simp [bare], by simp [maxLen], by simp [bare]⟩
theorem bare_valid (o s a : Int) (ov : Bool) (h0 : 0 ≤ o) (h1 : o ≤ 63) (h2 : 1 ≤ s) (h3 : s ≤ 1073741824) (h4 : 0 ≤ a) (h5 : a < 3600) : LaValid (bare o s a ov) := by
  refine ⟨⟨h0, h1⟩, ⟨h2, h3⟩, ⟨h4, by simp only [bare]; omega⟩, by simp [bare], by simp [bare], fun h => by simp only [bare] at h; omega, fun k x hk => by simp [bare] at hk, fun k x hk => by simp [bare] at hk⟩
theorem bare_purge (o s : Int) (h0 : 0 ≤ o) (h1 : o ≤ 63) (h2 : 1 ≤ s) (h3 : s ≤ 1073741824) : LaValid (bare o s 3600 false) := by
  refine ⟨⟨h0, h1⟩, ⟨h2, h3⟩, by simp [bare], by simp [bare], by simp [bare], fun h => by simp [bare], fun k x hk => by simp [bare] at hk, fun k x hk => by simp [bare] at hk⟩
theorem newI_s {x y : La} (hx : LaValid x) (hy : LaValid y) (h : x.s ≠ y.s) : newI x y = cmpI x.s y.s := by
  unfold newI
  rw [vB_t hx, vB_t hy, if_pos ⟨rfl, rfl⟩, if_neg h]

def one (x : La) (l : Int) : Db := fun i => if i = 2 then some ⟨x, l⟩ else none
theorem orgs_one (x : La) (l : Int) : orgs (one x l) = [2] := by rfl
theorem one_ok {x : La} {l : Int} (hx : LaValid x) (ho : x.o = 2) (h1 : 1 ≤ l) (h2 : l ≤ 60) : DbOk (one x l) := by
  intro i h e
  unfold one at e
  split at e
  · injection e with e; subst e; rename_i hi; subst hi
    exact ⟨hx, ho, h1, h2⟩
  · cases e
theorem one_small (x : La) (l : Int) : ∀ i, 64 ≤ i → one x l i = none := fun i hi => by unfold one; rw [if_neg (by omega)]
theorem v4 : LaValid (bare 2 4 0 false) := bare_valid 2 4 0 false (by omega) (by omega) (by omega) (by omega) (by omega) (by omega)
theorem v3 : LaValid (bare 2 3 0 false) := bare_valid 2 3 0 false (by omega) (by omega) (by omega) (by omega) (by omega) (by omega)
theorem v5 : LaValid (bare 2 5 0 false) := bare_valid 2 5 0 false (by omega) (by omega) (by omega) (by omega) (by omega) (by omega)
theorem v6 : LaValid (bare 2 5 3600 false) := bare_purge 2 5 (by omega) (by omega) (by omega) (by omega)
theorem n34 : newI (bare 2 3 0 false) (bare 2 4 0 false) = -1 := by rw [newI_s v3 v4 (by simp [bare])]; simp [bare, cmpI]
theorem n54 : newI (bare 2 5 0 false) (bare 2 4 0 false) = 1 := by rw [newI_s v5 v4 (by simp [bare])]; simp [bare, cmpI]
theorem aw_r1 : instR (fun _ => none) (bare 2 4 0 false) = 1 := by unfold instR; rw [vB_t v4, if_pos rfl]
theorem aw_r2 : instR (one (bare 2 4 0 false) 60) (bare 2 3 0 false) = 3 := by
  unfold instR; rw [vB_t v3, if_pos rfl, show one (bare 2 4 0 false) 60 (bare 2 3 0 false).o.toNat = some ⟨bare 2 4 0 false, 60⟩ from rfl]
  simp only [n34]; simp
theorem aw_r3 : instR (one (bare 2 4 0 false) 60) (bare 2 5 0 false) = 1 := by
  unfold instR; rw [vB_t v5, if_pos rfl, show one (bare 2 4 0 false) 60 (bare 2 5 0 false).o.toNat = some ⟨bare 2 4 0 false, 60⟩ from rfl]
  simp only [n54]; simp
theorem aw_e {x : La} (h : LaValid x) : instE x = 0 := by unfold instE; rw [vB_t h, if_pos rfl]
theorem aw_n1 : instN (fun _ => none) (bare 2 4 0 false) = one (bare 2 4 0 false) 60 := by
  unfold instN; rw [aw_r1, vB_t v4, if_pos ⟨rfl, rfl⟩]; funext i; unfold one; rfl
theorem aw_n2 : instN (one (bare 2 4 0 false) 60) (bare 2 3 0 false) = one (bare 2 4 0 false) 60 := by
  unfold instN; rw [aw_r2, if_neg (by omega)]
theorem aw_n3 : instN (one (bare 2 4 0 false) 60) (bare 2 5 0 false) = one (bare 2 5 0 false) 60 := by
  unfold instN; rw [aw_r3, vB_t v5, if_pos ⟨rfl, rfl⟩]; funext i
  by_cases h : i = 2
  · subst h; rfl
  · unfold one
    rw [if_neg h, if_neg (by show ¬ i = 2; exact h), if_neg h]
theorem aw_t1 : tickN 3600 (one (bare 2 5 0 false) 60) = one (bare 2 5 3600 false) 60 := by
  funext i
  by_cases h : i = 2
  · subst h; simp [tickN, one, tickH, bare, purgeX]
  · simp [tickN, one, h]
theorem aw_l1 : tickL 3600 (one (bare 2 5 0 false) 60) = [2] := by
  unfold tickL; rw [orgs_one]; simp [expH, one, tickH, bare]
theorem aw_t2 : tickN 60 (one (bare 2 5 3600 false) 60) = fun _ => none := by
  funext i
  by_cases h : i = 2
  · subst h; simp [tickN, one, tickH, bare]
  · simp [tickN, one, h]
theorem aw_l2 : tickL 60 (one (bare 2 5 3600 false) 60) = [] := by
  unfold tickL; rw [orgs_one]; simp [expH, one, tickH, bare]

end Go.Proofs.YtbkpholkjgjicaaGreat

namespace Go.Proofs.YtbkpholkjgjicaaGreat
set_option linter.unusedVariables false
open Go.RowKit

theorem fewB_t {x : La} (h : fewB x = true) : x.adj.length ≤ 300 ∧ x.pre.length ≤ 100 := by simpa [fewB] using h

theorem cmpI_neg (a b : Int) : cmpI b a = - cmpI a b := by unfold cmpI; split <;> split <;> (try split) <;> omega
theorem cmpI_bd (a b : Int) : cmpI a b = -1 ∧ a < b ∨ cmpI a b = 0 ∧ a = b ∨ cmpI a b = 1 ∧ b < a := by unfold cmpI; split <;> (try split) <;> omega
theorem cmpB_neg : ∀ (a b : List UInt8), Lib.compareBytes b a = - Lib.compareBytes a b
  | [], [] => rfl
  | [], _ :: _ => rfl
  | _ :: _, [] => rfl
  | x :: a, y :: b => by
    unfold Lib.compareBytes
    by_cases h1 : x < y
    · have h2 : ¬ y < x := fun h => absurd (UInt8.lt_trans h1 h) (UInt8.lt_irrefl _)
      simp [h1, h2]
    · by_cases h2 : y < x
      · simp [h1, h2]
      · simp [h1, h2, cmpB_neg a b]
theorem cmpB_trans : ∀ (a b c : List UInt8), 0 ≤ Lib.compareBytes a b → 0 ≤ Lib.compareBytes b c → 0 ≤ Lib.compareBytes a c
  | [], [], [] => by simp [Lib.compareBytes]
  | [], [], _ :: _ => by simp [Lib.compareBytes]
  | [], _ :: _, _ => by simp [Lib.compareBytes]
  | _ :: _, _, [] => by simp [Lib.compareBytes]
  | _ :: _, [], _ :: _ => by simp [Lib.compareBytes]
  | x :: a, y :: b, z :: c => by
    have ih := cmpB_trans a b c
    intro h1 h2
    unfold Lib.compareBytes at h1 h2 ⊢
    by_cases e1 : x < y
    · simp [e1] at h1
    · by_cases e2 : y < z
      · simp [e2] at h2
      · have e3 : ¬ x < z := fun h => by
          rw [UInt8.lt_iff_toNat_lt] at *; omega
        by_cases e4 : z < x
        · simp [e3, e4]
        · have e5 : ¬ y < x := fun h => by rw [UInt8.lt_iff_toNat_lt] at *; omega
          have e6 : ¬ z < y := fun h => by rw [UInt8.lt_iff_toNat_lt] at *; omega
          simp only [e1, e2, e3, e4, e5, e6, if_false] at h1 h2 ⊢
          exact ih h1 h2
theorem newI_v {x y : La} (hx : LaValid x) (hy : LaValid y) : newI x y = if x.s = y.s then (if (x.a == 3600) = (y.a == 3600) then Lib.compareBytes (laEnc (age0 x)) (laEnc (age0 y)) else if (x.a == 3600) = true then 1 else -1) else cmpI x.s y.s := by
  unfold newI
  rw [vB_t hx, vB_t hy]
  exact if_pos ⟨rfl, rfl⟩
/-- The number, whether it is a purge, the bytes. -/
def KeyGe (x y : La) : Prop := y.s < x.s ∨ x.s = y.s ∧ (x.a = 3600 ∧ y.a ≠ 3600 ∨ ((x.a == 3600) = (y.a == 3600)) ∧ 0 ≤ Lib.compareBytes (laEnc (age0 x)) (laEnc (age0 y)))
theorem newI_neg {x y : La} (hx : LaValid x) (hy : LaValid y) : newI y x = - newI x y := by
  rw [newI_v hx hy, newI_v hy hx]
  by_cases h : x.s = y.s
  · rw [if_pos h, if_pos h.symm]
    by_cases h2 : (x.a == 3600) = (y.a == 3600)
    · rw [if_pos h2, if_pos h2.symm]; exact cmpB_neg _ _
    · rw [if_neg h2, if_neg (fun e => h2 e.symm)]
      rcases e1 : (x.a == 3600) with _ | _ <;> rcases e2 : (y.a == 3600) with _ | _
      · rw [e1, e2] at h2; exact absurd rfl h2
      · simp
      · simp
      · rw [e1, e2] at h2; exact absurd rfl h2
  · rw [if_neg h, if_neg (fun e => h e.symm)]; exact cmpI_neg _ _
theorem newI_bd {x y : La} (hx : LaValid x) (hy : LaValid y) : -1 ≤ newI x y ∧ newI x y ≤ 1 := by
  unfold newI
  rw [vB_t hx, vB_t hy, if_pos ⟨rfl, rfl⟩]
  have h1 := cmp_bd (laEnc (age0 x)) (laEnc (age0 y))
  have h2 := cmpI_bd x.s y.s
  split
  · split
    · omega
    · split <;> omega
  · omega
theorem newI_ge {x y : La} (hx : LaValid x) (hy : LaValid y) : 0 ≤ newI x y ↔ KeyGe x y := by
  unfold newI KeyGe
  rw [vB_t hx, vB_t hy, if_pos ⟨rfl, rfl⟩]
  by_cases h : x.s = y.s
  · rw [if_pos h]
    by_cases h2 : (x.a == 3600) = (y.a == 3600)
    · rw [if_pos h2]
      constructor
      · intro h3; exact .inr ⟨h, .inr ⟨h2, h3⟩⟩
      · rintro (h3 | ⟨_, ⟨h3, h4⟩ | ⟨_, h3⟩⟩)
        · omega
        · rw [h3] at h2; simp at h2; exact absurd h2 h4
        · exact h3
    · rw [if_neg h2]
      rcases e1 : (x.a == 3600) with _ | _ <;> rcases e2 : (y.a == 3600) with _ | _
      · rw [e1, e2] at h2; exact absurd rfl h2
      · simp only [beq_eq_false_iff_ne, beq_iff_eq] at e1 e2
        constructor
        · intro h3; simp at h3
        · rintro (h3 | ⟨_, ⟨h3, h4⟩ | ⟨h3, _⟩⟩)
          · omega
          · exact absurd h3 e1
          · cases h3
      · simp only [beq_eq_false_iff_ne, beq_iff_eq] at e1 e2
        constructor
        · intro _; exact .inr ⟨h, .inl ⟨e1, e2⟩⟩
        · intro _; simp
      · rw [e1, e2] at h2; exact absurd rfl h2
  · rw [if_neg h]
    have := cmpI_bd x.s y.s
    constructor
    · intro h3; left; omega
    · rintro (h3 | ⟨h3, _⟩)
      · omega
      · exact absurd h3 h
theorem KeyGe.trans {x y z : La} (h1 : KeyGe x y) (h2 : KeyGe y z) : KeyGe x z := by
  unfold KeyGe at *
  rcases h1 with h1 | ⟨e1, h1⟩
  · rcases h2 with h2 | ⟨e2, _⟩
    · left; omega
    · left; omega
  · rcases h2 with h2 | ⟨e2, h2⟩
    · left; omega
    · right
      refine ⟨by omega, ?_⟩
      rcases h1 with ⟨a1, b1⟩ | ⟨a1, b1⟩
      · rcases h2 with ⟨a2, b2⟩ | ⟨a2, b2⟩
        · exact absurd a2 b1
        · left
          refine ⟨a1, fun h => b1 ?_⟩
          rw [h] at a2; simpa using a2
      · rcases h2 with ⟨a2, b2⟩ | ⟨a2, b2⟩
        · left
          refine ⟨?_, b2⟩
          rw [a2] at a1; simpa using a1
        · right
          exact ⟨a1.trans a2, cmpB_trans _ _ _ b1 b2⟩
/-- 0 exactly for advertisements of the same contents. -/
theorem newI_zero {x y : La} (hx : LaOk x) (hy : LaOk y) : (newI x y == 0) = sameB x y := by
  have hz : newI x y = 0 ↔ sameB x y = true := by
    unfold newI
    rw [vB_t hx.1, vB_t hy.1, if_pos ⟨rfl, rfl⟩]
    have hinj : laEnc (age0 x) = laEnc (age0 y) ↔ age0 x = age0 y := ⟨fun h => laEnc_inj ⟨age0_valid hx.1, hx.2⟩ ⟨age0_valid hy.1, hy.2⟩ h, fun h => by rw [h]⟩
    have hs := cmpI_bd x.s y.s
    simp only [sameB, conB, Bool.and_eq_true, beq_iff_eq, decide_eq_true_iff]
    by_cases h : x.s = y.s
    · rw [if_pos h]
      by_cases h2 : (x.a == 3600) = (y.a == 3600)
      · rw [if_pos h2, cmp_eq0, hinj]
        obtain ⟨o, s, a, ov, adj, pre⟩ := x
        obtain ⟨o', s', a', ov', adj', pre'⟩ := y
        simp only [age0, La.mk.injEq, true_and]
        constructor
        · rintro ⟨rfl, rfl, rfl, rfl, rfl⟩; exact ⟨rfl, rfl, h2, rfl, rfl, rfl⟩
        · rintro ⟨rfl, rfl, _, rfl, rfl, rfl⟩; exact ⟨rfl, rfl, rfl, rfl, rfl⟩
      · rw [if_neg h2]
        constructor
        · intro h3; split at h3 <;> omega
        · rintro ⟨_, _, h3, _⟩; exact absurd h3 h2
    · rw [if_neg h]
      constructor
      · intro h3; omega
      · rintro ⟨_, h3, _⟩; exact absurd h3 h
  rw [Bool.eq_iff_iff, beq_iff_eq]; exact hz
/-- Transitivity, as the law says it. -/
theorem newI_tr {x y z : La} (hx : LaValid x) (hy : LaValid y) (hz : LaValid z) (h1 : 0 ≤ newI x y) (h2 : 0 ≤ newI y z) : 0 ≤ newI x z ∧ (newI x y + newI y z = 0 ↔ newI x z = 0) := by
  have h3 := (newI_ge hx hz).2 (((newI_ge hx hy).1 h1).trans ((newI_ge hy hz).1 h2))
  refine ⟨h3, fun h => ?_, fun h => ?_⟩
  · have e1 : newI y x = 0 := by rw [newI_neg hx hy]; omega
    have e2 : newI z y = 0 := by rw [newI_neg hy hz]; omega
    have h4 := (newI_ge hz hx).2 (((newI_ge hz hy).1 (by omega)).trans ((newI_ge hy hx).1 (by omega)))
    rw [newI_neg hx hz] at h4
    omega
  · have e3 : newI z x = 0 := by rw [newI_neg hx hz]; omega
    have a1 := (newI_ge hz hy).2 (((newI_ge hz hx).1 (by omega)).trans ((newI_ge hx hy).1 h1))
    have a2 := (newI_ge hy hx).2 (((newI_ge hy hz).1 h2).trans ((newI_ge hz hx).1 (by omega)))
    rw [newI_neg hy hz] at a1
    rw [newI_neg hx hy] at a2
    omega
theorem newI_tr2 {x y z : La} (hx : LaValid x) (hy : LaValid y) (hz : LaValid z) (h1 : newI x y ≤ 0) (h2 : newI y z ≤ 0) (h : newI x y < 0 ∨ newI y z < 0) : newI x z < 0 := by
  have e1 := newI_neg hx hy
  have e2 := newI_neg hy hz
  have e3 := newI_neg hx hz
  obtain ⟨h3, h4⟩ := newI_tr hz hy hx (by omega) (by omega)
  have : ¬ newI z x = 0 := fun e => by have := h4.2 e; omega
  omega

end Go.Proofs.YtbkpholkjgjicaaGreat

namespace Go.Proofs.YtbkpholkjgjicaaGreat
set_option linter.unusedVariables false
open Go.RowKit

noncomputable def insts (l : List La) : Db := l.foldl instN (fun _ => none)
/-- What holds behind the installation of l. -/
def NwAt (l : List La) (N : Db) (i : Nat) : Prop := match N i with
  | none => ∀ a ∈ l, a.o.toNat ≠ i
  | some h => h.x ∈ l ∧ h.x.o.toNat = i ∧ h.l = 60 ∧ ∀ a ∈ l, a.o.toNat = i → newI a h.x ≤ 0
theorem insts_snoc (l : List La) (a : La) : insts (l ++ [a]) = instN (insts l) a := by unfold insts; rw [List.foldl_append]; rfl

theorem newI_self {x : La} (h : LaValid x) : newI x x = 0 := by have := newI_neg h h; omega
theorem nw_snoc {l : List La} {N : Db} (hl : ∀ a ∈ l, LaValid a) (h : ∀ i, NwAt l N i) {a : La} (ha : LaValid a) (i : Nat) : NwAt (l ++ [a]) (instN N a) i := by
  have hi := h i
  by_cases hia : i = a.o.toNat
  · subst hia
    unfold NwAt at hi
    cases hN : N a.o.toNat with
    | none =>
      rw [hN] at hi
      have hr : instR N a = 1 := by unfold instR; rw [vB_t ha, if_pos rfl, hN]
      have he : instN N a a.o.toNat = some ⟨a, 60⟩ := by unfold instN; rw [hr, vB_t ha, if_pos ⟨rfl, rfl⟩, if_pos rfl]
      unfold NwAt
      rw [he]
      refine ⟨by simp, rfl, rfl, fun b hb hbo => ?_⟩
      rcases List.mem_append.1 hb with hb | hb
      · exact absurd hbo (hi b hb)
      · rw [List.mem_singleton.1 hb, newI_self ha]; omega
    | some x =>
      rw [hN] at hi
      obtain ⟨hm, ho, hlf, hle⟩ := hi
      have hx := hl _ hm
      have hbd := newI_bd ha hx
      by_cases h1 : newI a x.x = 1
      · have hr : instR N a = 1 := by unfold instR; rw [vB_t ha, if_pos rfl, hN]; simp only [h1]; simp
        have he : instN N a a.o.toNat = some ⟨a, 60⟩ := by unfold instN; rw [hr, vB_t ha, if_pos ⟨rfl, rfl⟩, if_pos rfl]
        unfold NwAt
        rw [he]
        refine ⟨by simp, rfl, rfl, fun b hb hbo => ?_⟩
        rcases List.mem_append.1 hb with hb | hb
        · have hbv := hl b hb
          have h2 := hle b hb hbo
          have h3 := newI_neg hbv hx
          have h4 := newI_neg ha hbv
          have h5 := (newI_tr ha hx hbv (by omega) (by omega)).1
          show newI b a ≤ 0
          omega
        · rw [List.mem_singleton.1 hb, newI_self ha]; omega
      · have hr : instR N a ≠ 1 := by
          unfold instR; rw [vB_t ha, if_pos rfl, hN]
          have : newI a x.x = 0 ∨ newI a x.x = -1 := by omega
          rcases this with e | e <;> simp [e]
        have he : instN N a = N := by unfold instN; rw [if_neg (fun e => hr e.2)]
        unfold NwAt
        rw [he, hN]
        refine ⟨by simp [hm], ho, hlf, fun b hb hbo => ?_⟩
        rcases List.mem_append.1 hb with hb | hb
        · exact hle b hb hbo
        · rw [List.mem_singleton.1 hb]; omega
  · have he : instN N a i = N i := by
      unfold instN
      split
      · exact if_neg hia
      · rfl
    unfold NwAt at hi ⊢
    rw [he]
    cases hN : N i with
    | none =>
      rw [hN] at hi
      intro b hb
      rcases List.mem_append.1 hb with hb | hb
      · exact hi b hb
      · rw [List.mem_singleton.1 hb]; exact fun e => hia e.symm
    | some x =>
      rw [hN] at hi
      obtain ⟨hm, ho, hlf, hle⟩ := hi
      refine ⟨by simp [hm], ho, hlf, fun b hb hbo => ?_⟩
      rcases List.mem_append.1 hb with hb | hb
      · exact hle b hb hbo
      · rw [List.mem_singleton.1 hb] at hbo; exact absurd hbo.symm hia

theorem nw_take {l : List La} (hl : ∀ a ∈ l, LaValid a) : ∀ k, k ≤ l.length → ∀ i, NwAt (l.take k) (insts (l.take k)) i
  | 0, _ => fun i => by
    rw [List.take_zero]
    show NwAt [] (fun _ => none) i
    unfold NwAt
    simp
  | k + 1, hk => fun i => by
    rw [List.take_succ_eq_append_getElem (by omega), insts_snoc]
    exact nw_snoc (fun a ha => hl a (List.mem_of_mem_take ha)) (nw_take hl k (by omega)) (hl _ (List.getElem_mem _)) i
theorem nw_all {l : List La} (hl : ∀ a ∈ l, LaValid a) (i : Nat) : NwAt l (insts l) i := by
  have h := nw_take hl l.length (Nat.le_refl _) i
  rwa [List.take_length] at h
/-- What is held is one of those that were installed. -/
theorem insts_mem {l : List La} (hl : ∀ a ∈ l, LaValid a) {i : Nat} {h : Hd} (e : insts l i = some h) : h.x ∈ l ∧ h.x.o.toNat = i ∧ h.l = 60 ∧ ∀ a ∈ l, a.o.toNat = i → newI a h.x ≤ 0 := by
  have := nw_all hl i
  unfold NwAt at this
  rw [e] at this
  exact this
theorem insts_ok {l : List La} (hl : ∀ a ∈ l, LaValid a) : DbOk (insts l) := fun i h e => by
  obtain ⟨h1, h2, h3, _⟩ := insts_mem hl e
  have hv := hl _ h1
  have ho := hv.1
  exact ⟨hv, by omega, by omega, by omega⟩
theorem insts_small {l : List La} (hl : ∀ a ∈ l, LaValid a) : ∀ i, 64 ≤ i → insts l i = none := fun i hi => by
  cases e : insts l i with
  | none => rfl
  | some h =>
    obtain ⟨h1, h2, _⟩ := insts_mem hl e
    have := (hl _ h1).1
    omega
/-- What is held for the origin of one of them. -/
theorem insts_get {l : List La} (hl : ∀ a ∈ l, LaValid a) {a : La} (ha : a ∈ l) : ∃ h, getO (insts l) a.o = some h ∧ h.x ∈ l ∧ newI a h.x ≤ 0 := by
  have ho := (hl a ha).1
  have e1 : getO (insts l) a.o = insts l a.o.toNat := by unfold getO; rw [if_pos ⟨ho.1, by omega⟩]
  cases e : insts l a.o.toNat with
  | none =>
    have := nw_all hl a.o.toNat
    unfold NwAt at this
    rw [e] at this
    exact absurd rfl (this a ha)
  | some h =>
    obtain ⟨h1, h2, _, h4⟩ := insts_mem hl e
    exact ⟨h, by rw [e1, e], h1, h4 a ha rfl⟩
theorem sameB_refl (x : La) : sameB x x = true := by simp [sameB, conB]

end Go.Proofs.YtbkpholkjgjicaaGreat
