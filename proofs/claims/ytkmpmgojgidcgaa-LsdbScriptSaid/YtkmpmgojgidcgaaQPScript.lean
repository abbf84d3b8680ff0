/-
  The statement LsdbScript: for every input that can be read, the law returns true and leaves its arguments as they were. No condition.
-/
import Derived.Test.YtkmpmgojgidcgaaDb2
import Derived.Test.YtkmpmgojgidcgaaSameR
import Derived.Test.YtkmpmgojgidcgaaLaC
import Derived.Test.YtkmpmgojgidcgaaLaArg
import Derived.Deep.MidRow
import Derived.Deep.RegionHeld3
namespace Go.Proofs.Ytkmpmgojgidcgaa
set_option linter.unusedVariables false
open Go.RowKit Go.Maps Go.Sort

/-- What is held for any number. -/
def getO (N : Db) (i : Int) : Option Hd := if 0 ≤ i ∧ i < 64 then N i.toNat else none
def getX (o : Option Hd) : La := match o with | some h => h.x | none => laZero
/-- Sizes that the copies want. -/
def Few33 (N : Db) : Prop := ∀ i h, N i = some h → h.x.adj.length ≤ 1000000 ∧ h.x.pre.length ≤ 1000000
/-- An element that is read, the zero one where there is none. -/
theorem elem_form {w : World} {g b : Nat} {N : Db} (h : DbAt w g b N) (hf : Few33 N) (i : Int) : ∃ M, MapIs w b M ∧ (M i).isSome = (getO N i).isSome ∧ (∃ A c B d l, (M i).getD hdZ = hdV (getX (getO N i)) A c B d l ∧ LaAt w (laV (getX (getO N i)).o (getX (getO N i)).s (getX (getO N i)).a (getX (getO N i)).ov A (getX (getO N i)).adj.length c B (getX (getO N i)).pre.length d) (getX (getO N i))) ∧
    (getX (getO N i)).adj.length ≤ 1000000 ∧ (getX (getO N i)).pre.length ≤ 1000000 := by
  obtain ⟨⟨M, hm, he⟩, hc⟩ := h
  refine ⟨M, hm, ?_⟩
  by_cases hi : 0 ≤ i ∧ i < 64
  · have e1 : getO N i = N i.toNat := by unfold getO; rw [if_pos hi]
    have hei := he i.toNat (by omega)
    rw [Int.toNat_of_nonneg hi.1] at hei
    rw [e1]
    cases hM : M i with
    | none =>
      rw [hM] at hei
      cases hN : N i.toNat with
      | none => exact ⟨rfl, ⟨none, 0, none, 0, 0, rfl, (laZero_own w w.heap.size).at⟩, by simp [getX, laZero], by simp [getX, laZero]⟩
      | some hh => rw [hN] at hei; exact hei.elim
    | some v =>
      rw [hM] at hei
      cases hN : N i.toNat with
      | none => rw [hN] at hei; exact hei.elim
      | some hh =>
        rw [hN] at hei
        obtain ⟨A, c, B, d, rfl, hl⟩ := hei
        exact ⟨rfl, ⟨A, c, B, d, hh.l, rfl, hl.1⟩, (hf _ _ hN).1, (hf _ _ hN).2⟩
  · have e1 : getO N i = none := by unfold getO; rw [if_neg hi]
    have hM : M i = none := by
      cases h2 : M i with
      | none => rfl
      | some v => exact absurd (hm.small (i := i) (by rw [h2]; rfl)) (by omega)
    rw [e1, hM]
    exact ⟨rfl, ⟨none, 0, none, 0, 0, rfl, (laZero_own w w.heap.size).at⟩, by simp [getX, laZero], by simp [getX, laZero]⟩

def GetPost (w : World) (o : Option Hd) (e : Ending) (w' : World) : Prop :=
  ∃ v, e = .returned (.tuple #[v, .bool o.isSome]) ∧ LaOwn w' w.heap.size v (getX o) ∧ Below w.heap.size w w'

set_option maxRecDepth 100000 in
set_option maxHeartbeats 3200000 in
theorem dget_any (w : World) (g b : Nat) (N : Db) (i : Int) (hi : (Lit.int .i64 i).wf = true) (h : DbAt w g b N) (hf : Few33 N) : Calls Try.prog 15 #[.pointer (some ⟨g, 0, none⟩), .int .i64 i] w (GetPost w (getO N i)) := by
  obtain ⟨M, hm, hs, ⟨A, c, B, d, l, hv, hl⟩, hb1, hb2⟩ := elem_form h hf i
  have hc := h.cell
  generalize hG : getO N i = G at *
  have S := (St.start w).new' #[.int .i64 0, .int .i64 0, .int .i64 0, .bool false, .slice none 0 0, .slice none 0 0] 30 w.heap.size _ rfl rfl
  have hc1 := cell_later S.b hc
  have L := (hm.below S.b).run_ok hi
  rw [hv, hs] at L
  unfold GetPost
  generalize G.isSome = ok at *
  generalize getX G = x at *
  have C := fun W hb => dclone_any W _ x (hl.below hb) hb1 hb2
  unfold hdV at L
  replace C := Lib.hid C
  clear hl hv hm hs h hf hG hb1 hb2 hi
  have r0 := S.c 0 0 rfl rfl
  have r1 := S.c 0 1 rfl rfl
  have r2 := S.c 0 2 rfl rfl
  have r3 := S.c 0 3 rfl rfl
  have r4 := S.c 0 4 rfl rfl
  have r5 := S.c 0 5 rfl rfl
  go_enter Try.func15, Try.ntmps15
  go_upto_region 4 with fail
  have S2 := S.new' #[.int .i64 x.o, .int .i64 x.s, .int .i64 x.a, .bool x.ov, .slice A x.adj.length c, .slice B x.pre.length d, .int .i64 l] 89 (w.heap.size + 1) _ (by simp) rfl
  clear r0 r1 r2 r3 r4 r5
  clear L hc1 S hc
  generalize World.alloc (World.alloc _ _) _ = w2 at *
  have a0 := S2.c 0 0 rfl rfl
  have a1 := S2.c 0 1 rfl rfl
  have a2 := S2.c 0 2 rfl rfl
  have a3 := S2.c 0 3 rfl rfl
  have a4 := S2.c 0 4 rfl rfl
  have a5 := S2.c 0 5 rfl rfl
  have a6 := S2.c 0 6 rfl rfl
  go_wp2_with fail
  (with_reducible refine (C.out _ S2.b).mono ?_)
  rintro e w3 ⟨v3, rfl, hown, hb⟩
  have T := (S2.call hb).keepBoxes [(w.heap.size, [.int .i64 0, .int .i64 0, .int .i64 0, .bool false, .slice none 0 0, .slice none 0 0])] (by simp)
  have hsz := S2.b.size
  have hlt := S2.lt 1 rfl (by simp)
  obtain ⟨A1, c1, B1, d1, rfl, o1, o2, hu⟩ := hown
  clear a0 a1 a2 a3 a4 a5 a6
  clear S2 hb C
  have r0 := T.c 0 0 rfl rfl
  have r1 := T.c 0 1 rfl rfl
  have r2 := T.c 0 2 rfl rfl
  have r3 := T.c 0 3 rfl rfl
  have r4 := T.c 0 4 rfl rfl
  have r5 := T.c 0 5 rfl rfl
  have f0 := T.f 0 0 rfl rfl
  have f1 := T.f 0 1 rfl rfl
  have f2 := T.f 0 2 rfl rfl
  have f3 := T.f 0 3 rfl rfl
  have f4 := T.f 0 4 rfl rfl
  have f5 := T.f 0 5 rfl rfl
  have S9 := T.set6 x.o x.s x.a x.ov (.slice A1 x.adj.length c1) (.slice B1 x.pre.length d1) (Nat.le_refl _) (by simp)
  have q1 := own_set6 o1 hlt (.int .i64 x.o) (.int .i64 x.s) (.int .i64 x.a) (.bool x.ov) (.slice A1 x.adj.length c1) (.slice B1 x.pre.length d1)
  have q2 := own_set6 o2 hlt (.int .i64 x.o) (.int .i64 x.s) (.int .i64 x.a) (.bool x.ov) (.slice A1 x.adj.length c1) (.slice B1 x.pre.length d1)
  have hb9 := S9.b
  go_wp2_with fail
  exact bodyPost_ret (v := .tuple #[laV x.o x.s x.a x.ov A1 x.adj.length c1 B1 x.pre.length d1, .bool ok]) (by simp [results, Try.results15, go_sem, r0, r1, r2, r3, r4, r5]) rfl ⟨_, rfl, ⟨A1, c1, B1, d1, rfl, own_mono q1 (by omega), own_mono q2 (by omega), hu⟩, hb9⟩

end Go.Proofs.Ytkmpmgojgidcgaa

namespace Go.Proofs.Ytkmpmgojgidcgaa
set_option linter.unusedVariables false
open Go.RowKit Go.Maps Go.Sort

/-- n ticks of a held advertisement; whether it expired. -/
def tickH (n : Int) (h : Hd) : Option Hd × Bool :=
  if h.x.a < 3600 then
    if n < 3600 - h.x.a then (some ⟨{ h.x with a := h.x.a + n }, h.l⟩, false)
    else (if 60 ≤ n - (3600 - h.x.a) then none else some ⟨purgeX h.x, 60 - (n - (3600 - h.x.a))⟩, true)
  else (if h.l ≤ n then none else some ⟨h.x, h.l - n⟩, false)
def tickN (n : Int) (N : Db) : Db := fun i => match N i with | some h => (tickH n h).1 | none => none
def expH (n : Int) (o : Option Hd) : Bool := match o with | some h => (tickH n h).2 | none => false
/-- The origins in order. -/
def orgs (N : Db) : List Int := ((List.range 64).map fun (i : Nat) => (i : Int)).filter fun i => (N i.toNat).isSome
def tickL (n : Int) (N : Db) : List Int := (orgs N).filter fun i => expH n (N i.toNat)
/-- What holds of what is held. -/
def DbOk (N : Db) : Prop := ∀ i h, N i = some h → LaValid h.x ∧ h.x.o = (i : Int) ∧ 1 ≤ h.l ∧ h.l ≤ 60
theorem DbOk.few {N : Db} (h : DbOk N) : Few33 N := fun i x e => by
  have := (h i x e).1
  exact ⟨by have := this.2.2.2.1; omega, by have := this.2.2.2.2.1; omega⟩
theorem orgs_mem {N : Db} (i : Int) : i ∈ orgs N ↔ (0 ≤ i ∧ i < 64) ∧ (N i.toNat).isSome = true := by
  unfold orgs
  rw [List.mem_filter, List.mem_map]
  constructor
  · rintro ⟨⟨k, hk, rfl⟩, h⟩
    exact ⟨⟨by omega, by have := List.mem_range.1 hk; omega⟩, h⟩
  · rintro ⟨⟨h0, h1⟩, h⟩
    exact ⟨⟨i.toNat, List.mem_range.2 (by omega), Int.toNat_of_nonneg h0⟩, h⟩
theorem orgs_sorted (N : Db) : (orgs N).Pairwise (· < ·) := by
  unfold orgs
  refine List.Pairwise.filter _ ?_
  rw [List.pairwise_map]
  exact List.pairwise_lt_range.imp fun h => by omega
theorem orgs_len (N : Db) : (orgs N).length ≤ 64 := by
  unfold orgs
  refine Nat.le_trans (List.length_filter_le _ _) ?_
  simp
theorem keysL_orgs {w : World} {b : Nat} {M : Int → Option Value} {N : Db} (hm : MapIs w b M) (he : ∀ i : Nat, i < 64 → ElAt w (M (i : Int)) (N i)) : keysL M = orgs N := by
  unfold keysL orgs
  refine List.filter_congr fun i hi => ?_
  obtain ⟨k, hk, rfl⟩ := List.mem_map.1 hi
  have := he k (List.mem_range.1 hk)
  rw [Int.toNat_natCast]
  cases hM : M (k : Int) with
  | none =>
    rw [hM] at this
    cases hN : N k with
    | none => rfl
    | some x => rw [hN] at this; exact this.elim
  | some v =>
    rw [hM] at this
    cases hN : N k with
    | none => rw [hN] at this; exact this.elim
    | some x => rfl
/-- Behind k of the origins. -/
def midN (n : Int) (N : Db) (k : Nat) : Db := fun j => if (j : Int) ∈ (orgs N).take k then tickN n N j else N j
theorem midN_zero (n : Int) (N : Db) : midN n N 0 = N := by funext j; simp [midN]
theorem midN_end (n : Int) (N : Db) (hN : ∀ i, 64 ≤ i → N i = none) : midN n N (orgs N).length = tickN n N := by
  funext j
  unfold midN
  rw [List.take_length]
  by_cases h : (j : Int) ∈ orgs N
  · rw [if_pos h]
  · rw [if_neg h]
    have : N j = none := by
      cases hj : N j with
      | none => rfl
      | some x =>
        by_cases h6 : j < 64
        · exact absurd ((orgs_mem (N := N) (j : Int)).2 ⟨⟨by omega, by omega⟩, by rw [Int.toNat_natCast, hj]; rfl⟩) h
        · have := hN j (by omega); rw [hj] at this; cases this
    unfold tickN
    rw [this]
theorem midN_succ (n : Int) (N : Db) (k : Nat) (hk : k < (orgs N).length) (q : Nat) (hq : (orgs N)[k] = (q : Int)) : midN n N (k + 1) = fun j => if j = q then tickN n N q else midN n N k j := by
  funext j
  unfold midN
  rw [List.take_succ_eq_append_getElem hk, hq]
  by_cases h : j = q
  · subst h
    rw [if_pos (by simp), if_pos rfl]
  · rw [if_neg h]
    by_cases h2 : (j : Int) ∈ (orgs N).take k
    · rw [if_pos (by simp [h2]), if_pos h2]
    · rw [if_neg (by simp [h2]; omega), if_neg h2]
theorem midN_at (n : Int) (N : Db) (k : Nat) (hk : k < (orgs N).length) (q : Nat) (hq : (orgs N)[k] = (q : Int)) : midN n N k q = N q := by
  unfold midN
  rw [if_neg]
  intro hm
  have hp := orgs_sorted N
  obtain ⟨i, hi, e⟩ := List.getElem_of_mem hm
  rw [List.length_take] at hi
  rw [List.getElem_take] at e
  have := List.pairwise_iff_getElem.1 hp i k (by omega) hk (by omega)
  rw [e, hq] at this
  omega
theorem tickL_take (n : Int) (N : Db) (k : Nat) (hk : k < (orgs N).length) (q : Nat) (hq : (orgs N)[k] = (q : Int)) : ((orgs N).take (k + 1)).filter (fun i => expH n (N i.toNat)) = ((orgs N).take k).filter (fun i => expH n (N i.toNat)) ++ (if expH n (N q) = true then [(q : Int)] else []) := by
  rw [List.take_succ_eq_append_getElem hk, hq, List.filter_append]
  congr 1
  rw [List.filter_cons, Int.toNat_natCast]
  split <;> simp
/-! ### Memory -/
/-- What has turned since w0: the map in block b alone. -/
theorem grown_belowB {w0 w w' : World} {b B : Nat} (h : w0.grownBy w (some b)) (hb : Below B w w') (hB : w0.heap.size ≤ B) : w0.grownBy w' (some b) :=
  ⟨hb.os.trans h.os, hb.tape.trans h.tape, hb.output.trans h.output, Nat.le_trans h.size hb.size, fun k hk hne => (hb.block k (Nat.lt_of_lt_of_le hk hB)).trans (h.block k hk hne)⟩
theorem MapIs.belowB {w w' : World} {b B : Nat} {M : Int → Option Value} (h : MapIs w b M) (hb : Below B w w') (hB : b < B) : MapIs w' b M := by
  obtain ⟨D, ⟨es, clock, h1, h2⟩, hd⟩ := h
  exact ⟨D, ⟨es, clock, (hb.block b hB).trans h1, h2⟩, hd⟩
theorem own_belowB {w w' : World} {base : Nat} {e : TypeId} {size : Nat} {v : Value} {n : Nat} {xs : List Value} {B : Nat} (h : w.ownsRow base e size v n xs) (hb : Below B w w') (hB : ∀ k, v.ownBlock = some k → k < B) : w'.ownsRow base e size v n xs := by
  refine ⟨h.1, ?_⟩
  rcases h.2 with h2 | ⟨g, cap, cur, rfl, hg, hh, r⟩
  · exact .inl h2
  · exact .inr ⟨g, cap, cur, rfl, hg, (hb.block g (hB g rfl)).trans hh, r⟩
theorem own_rowB {w w' : World} {base : Nat} {e : TypeId} {size : Nat} {v : Value} {n : Nat} {xs : List Value} {b : Nat} (h : w.ownsRow base e size v n xs) (hg : w.grownBy w' (some b)) (hB : b < base) : w'.ownsRow base e size v n xs := by
  refine ⟨h.1, ?_⟩
  rcases h.2 with h2 | ⟨g, cap, cur, rfl, hgb, hh, r⟩
  · exact .inl h2
  · exact .inr ⟨g, cap, cur, rfl, hgb, (hg.block g (h.lt g rfl).2 (fun e => by injection e; omega)).trans hh, r⟩
/-- 'delete(m, i)', as an equation. -/
theorem MapIs.run_del {w : World} {b : Nat} {M : Int → Option Value} (h : MapIs w b M) {i : Int} (hi : (Lit.int .i64 i).wf = true) (ty : TypeId) :
    ∃ w', (Builtin.delete_ #[81, 3] ty #[.map (some b), .int .i64 i]).run Try.prog w = .ok (.tuple #[]) w' ∧ MapIs w' b (fun j => if j = i then none else M j) ∧ w.grownBy w' (some b) := by
  obtain ⟨D, hown, hd⟩ := h
  obtain ⟨w', hrun, r1, r2⟩ := hown.drop keyI Try.underlying81 (keyOfI hi) ty
  exact ⟨w', hrun, .of r1 (hd.del i), r2.grown⟩

end Go.Proofs.Ytkmpmgojgidcgaa

namespace Go.Proofs.Ytkmpmgojgidcgaa
set_option linter.unusedVariables false
open Go.RowKit Go.Maps Go.Sort

theorem dorigins_any (w : World) (g b : Nat) (N : Db) (h : DbAt w g b N) : Calls Try.prog 43 #[.pointer (some ⟨g, 0, none⟩)] w fun e w' => ∃ A c, e = .returned (.slice A (orgs N).length c) ∧
    w'.ownsRow w.heap.size 3 1 (.slice A (orgs N).length c) (orgs N).length ((orgs N).map encZ) ∧ Below w.heap.size w w' := by
  obtain ⟨⟨M, hm, he⟩, hc⟩ := h
  have hko := keysL_orgs hm he
  obtain ⟨D, hown, hd⟩ := hm
  have hs := size_keys hown hd
  refine (origins_any g b 64 D hdR w hc hown (by unfold maxLen; omega) (by omega)).mono ?_
  rintro e w' ⟨v, ss, he, hp, hrow, hnil, hb⟩
  rw [sort_keys hown hd hp, hko] at hrow
  have hl : ss.length = (orgs N).length := by
    rw [← hko, ← sort_keys hown hd hp, List.length_mergeSort]
  rw [hl] at hrow
  obtain ⟨A, c, rfl, _⟩ := own_rd hrow
  exact ⟨A, c, he, hrow, hb⟩

theorem intT : ElemT Try.prog 78 3 (.int .i64 0) 1 8 := ⟨Try.underlying78, by kernel_rfl, rfl, by omega⟩
def DTickPost (w : World) (g b : Nat) (N : Db) (n : Int) (e : Ending) (w' : World) : Prop :=
  ∃ v, e = .returned v ∧ w'.ownsRow w.heap.size 3 1 v (tickL n N).length ((tickL n N).map encZ) ∧ DbAt w' g b (tickN n N) ∧ w.grownBy w' (some b)
/-- The state between two rounds. -/
structure TkAt (w wr : World) (g b : Nat) (N : Db) (n : Int) (B : Nat) (v14 v5 : Value) (k : Nat) (es : List Int) : Prop where
  ex : ∃ M, MapIs wr b M ∧ ∀ i : Nat, i < 64 → ElAt w (M (i : Int)) (midN n N k i)
  cell : wr.cell? ⟨g, 0, none⟩ = some (.map (some b))
  gr : w.grownBy wr (some b)
  o14 : wr.ownsRow w.heap.size 3 1 v14 (orgs N).length ((orgs N).map encZ)
  o5 : wr.ownsRow B 3 1 v5 es.length (es.map encZ)
  he : es = ((orgs N).take k).filter (fun i => expH n (N i.toNat))
  sz : B ≤ wr.heap.size

theorem own_far {w : World} {base : Nat} {e : TypeId} {size : Nat} {v : Value} {n : Nat} {xs : List Value} (h : w.ownsRow base e size v n xs) {p : Addr} (hp : ∀ k, v.ownBlock = some k → k ≠ p.block) (u : Value) : (w.setCell p u).ownsRow base e size v n xs := by
  refine ⟨h.1, ?_⟩
  rcases h.2 with h2 | ⟨g, cap, cur, rfl, hg, hh, r⟩
  · exact .inl h2
  · exact .inr ⟨g, cap, cur, rfl, hg, (heap_setCell_other w p g u (fun e => hp g rfl e)).trans hh, r⟩
/-- The state within a round: the box of the held advertisement lies in block g2. -/
structure TkW (w W : World) (g b : Nat) (M : Int → Option Value) (N : Db) (B : Nat) (v14 v5 : Value) (es : List Int) (g2 : Nat) (cs : List Value) : Prop where
  hm : MapIs W b M
  c : W.cell? ⟨g, 0, none⟩ = some (.map (some b))
  gr : w.grownBy W (some b)
  o14 : W.ownsRow w.heap.size 3 1 v14 (orgs N).length ((orgs N).map encZ)
  o5 : W.ownsRow B 3 1 v5 es.length (es.map encZ)
  l14 : ∀ bb, v14.ownBlock = some bb → bb < B
  l5 : ∀ bb, v5.ownBlock = some bb → bb ≠ g2
  bx : Box W g2 cs
  pos : 0 < cs.length
  hB : B ≤ g2
  hw : w.heap.size ≤ B
  hg : g < w.heap.size
  hb : b < w.heap.size
section
variable {w W W' : World} {g b : Nat} {M : Int → Option Value} {N : Db} {B : Nat} {v14 v5 : Value} {es : List Int} {g2 : Nat} {cs : List Value}
theorem TkW.sz (h : TkW w W g b M N B v14 v5 es g2 cs) : B ≤ W.heap.size := Nat.le_trans h.hB (Nat.le_of_lt (h.bx.lt h.pos))
theorem TkW.set (h : TkW w W g b M N B v14 v5 es g2 cs) (j : Nat) (u : Value) (hj : j < cs.length) (cs' : List Value) (hcs : cs.set j u = cs') : TkW w (W.setCell ⟨g2, j, none⟩ u) g b M N B v14 v5 es g2 cs' := by
  subst hcs
  have h1 := h.hB; have h2 := h.hw; have h3 := h.hg; have h4 := h.hb
  refine ⟨h.hm.kept (grownBy_set W g2 j u) (fun e => by injection e; omega), (cell_far u (by intro e; injection e; omega)).trans h.c, ?_, own_far h.o14 (fun k hk => by have := h.l14 k hk; simp only; omega) u, own_far h.o5 (fun k hk => h.l5 k hk) u, h.l14, h.l5, h.bx.set j u hj, by rw [List.length_set]; exact h.pos, h.hB, h.hw, h.hg, h.hb⟩
  have hg := grownBy_set W g2 j u
  refine ⟨hg.os.trans h.gr.os, hg.tape.trans h.gr.tape, hg.output.trans h.gr.output, Nat.le_trans h.gr.size hg.size, fun k hk hne => ?_⟩
  exact (hg.block k (Nat.lt_of_lt_of_le hk h.gr.size) (fun e => by injection e; omega)).trans (h.gr.block k hk hne)
theorem TkW.below (h : TkW w W g b M N B v14 v5 es g2 cs) (hb : Below W.heap.size W W') : TkW w W' g b M N B v14 v5 es g2 cs :=
  ⟨h.hm.below hb, cell_later hb h.c, h.gr.trans (below_row hb _), own_below h.o14 hb, own_below h.o5 hb, h.l14, h.l5, h.bx.later hb, h.pos, h.hB, h.hw, h.hg, h.hb⟩
theorem TkW.drew (h : TkW w W g b M N B v14 v5 es g2 cs) : TkW w W.drew g b M N B v14 v5 es g2 cs := h.below ⟨rfl, rfl, rfl, Nat.le_refl _, fun _ _ => rfl⟩
theorem TkW.app (h : TkW w W g b M N B v14 v5 es g2 cs) {v5' : Value} {es' : List Int} (ho : W'.ownsRow B 3 1 v5' es'.length (es'.map encZ)) (hbel : Below B W W') (hg : W.grownBy W' v5.ownBlock) (hv : v5'.ownBlock = v5.ownBlock ∨ v5'.ownBlock = some W.heap.size) : TkW w W' g b M N B v14 v5' es' g2 cs := by
  have h1 := h.hB; have h2 := h.hw; have h3 := h.hg; have h4 := h.hb
  have hl := h.bx.lt h.pos
  refine ⟨h.hm.belowB hbel (by omega), (hbel.cell (p := ⟨g, 0, none⟩) (by simp only; omega)).trans h.c, grown_belowB h.gr hbel h.hw, own_belowB h.o14 hbel h.l14, ho, h.l14, fun bb e => ?_, h.bx.kept hg (fun e => h.l5 g2 e.symm rfl) h.pos, h.pos, h.hB, h.hw, h.hg, h.hb⟩
  rcases hv with e2 | e2
  · exact h.l5 bb (e2 ▸ e)
  · rw [e2] at e; injection e; omega
/-- Behind the map's turn. -/
theorem TkW.fin (h : TkW w W g b M N B v14 v5 es g2 cs) {w9 : World} (hg9 : W.grownBy w9 (some b)) : w9.cell? ⟨g, 0, none⟩ = some (.map (some b)) ∧ w.grownBy w9 (some b) ∧ w9.ownsRow w.heap.size 3 1 v14 (orgs N).length ((orgs N).map encZ) ∧ w9.ownsRow B 3 1 v5 es.length (es.map encZ) ∧ B ≤ w9.heap.size := by
  have h1 := h.hB; have h2 := h.hw; have h3 := h.hg; have h4 := h.hb
  have hne : g ≠ b := fun e => by have := h.c; rw [e, h.hm.no_cell] at this; cases this
  refine ⟨?_, h.gr.trans hg9, own_rowB h.o14 hg9 h.hb, own_rowB h.o5 hg9 (by omega), Nat.le_trans h.sz hg9.size⟩
  rw [World.cell?_of_block (a := ⟨g, 0, none⟩) (hg9.block g (World.block_lt_of_cell? _ _ h.c) (fun e => hne (by injection e)))]
  exact h.c
end

set_option maxRecDepth 100000 in
set_option maxHeartbeats 12800000 in
theorem dtick_any (w : World) (g b : Nat) (N : Db) (n : Int) (h : DbAt w g b N) (hok : DbOk N) (hN : ∀ i, 64 ≤ i → N i = none) (hn0 : 0 < n) (hn : n ≤ 1000000) :
    Calls Try.prog 32 #[.pointer (some ⟨g, 0, none⟩), .int .i64 n] w (DTickPost w g b N n) := by
  have O := dorigins_any w g b N h
  have hgb := h.ne
  obtain ⟨hgl, hbl⟩ := h.lt
  have hlen := orgs_len N
  have hfin : Hid (∀ (wr : World) (B : Nat) (v14 v5 : Value) (es : List Int), w.heap.size ≤ B → TkAt w wr g b N n B v14 v5 (orgs N).length es → DTickPost w g b N n (.returned v5) wr) := fun wr B v14 v5 es hB T => by
    obtain ⟨M, hm, he⟩ := T.ex
    rw [midN_end n N hN] at he
    have e2 : es = tickL n N := by rw [T.he, List.take_length]; rfl
    refine ⟨v5, rfl, ?_, ⟨⟨M, hm, fun i hi => ?_⟩, T.cell⟩, T.gr⟩
    · rw [← e2]; exact own_mono T.o5 hB
    · have hmw := h.ex
      obtain ⟨M0, hm0, _⟩ := hmw
      exact (he i hi).keptMap hm0 T.gr
  obtain ⟨⟨M, hm, he⟩, hc⟩ := id h
  replace O := Lib.hid O
  go_enter Try.func32, Try.ntmps32
  go_wp2_with fail
  (with_reducible refine (O.out).mono ?_)
  rintro e w1 ⟨A, c, rfl, o14, hb⟩
  clear O
  have hT : TkAt w w1 g b N n w1.heap.size (.slice A (orgs N).length c) (.slice none 0 0) 0 [] :=
    ⟨⟨M, hm.below hb, fun i hi => by rw [midN_zero]; exact he i hi⟩, cell_later hb hc, below_row hb _, o14, World.ownsRow_nil _ _ _ _, by simp, Nat.le_refl _⟩
  have hlt14 : Hid (∀ bb, (Value.slice A (orgs N).length c).ownBlock = some bb → bb < w1.heap.size) := fun bb e => (o14.lt bb e).2
  have hw1 := hb.size
  replace hm := Lib.hid hm
  clear o14 hb he hc h
  generalize hB : w1.heap.size = B at *
  clear hB
  replace hT := Lib.hid hT
  replace hN := Lib.hid hN
  replace hok := Lib.hid hok
  generalize hL : (orgs N).length = len at *
  replace hL := Lib.hid hL
  go_wp2_with fail
  go_loopw [5, 16] (fun v5 v16 wr => ∃ (k : Nat) (es : List Int), v16 = .int .i64 k ∧ k ≤ len ∧ es.length ≤ k ∧ Hid (TkAt w wr g b N n B (.slice A len c) v5 k es)) (fun _ v16 _ => len - (intOf v16).toNat)
  case atStart => exact ⟨0, [], rfl, by omega, by simp, hT⟩
  case round =>
    clear hT
    obtain ⟨k, es, rfl, hk, hes, hT⟩ := hrel
    by_cases hkn : k < len
    · have hkl : k < (orgs N).length := by rw [hL.out]; exact hkn
      obtain ⟨⟨Mk, hmk, hek⟩, hck, hgr, ho14, ho5, hes2, hsz⟩ := hT.out
      have hmem := (orgs_mem (N := N) (orgs N)[k]).1 (List.getElem_mem hkl)
      obtain ⟨q, hq⟩ := Int.eq_ofNat_of_zero_le hmem.1.1
      have hq64 : q < 64 := by have := hmem.1.2; omega
      obtain ⟨hh, hNq⟩ : ∃ hh, N q = some hh := by
        have := hmem.2
        rw [hq, Int.toNat_natCast] at this
        exact Option.isSome_iff_exists.1 this
      have hat := midN_at n N k hkl q hq
      have hsucc := midN_succ n N k hkl q hq
      have htake := tickL_take n N k hkl q hq
      have heq := hek q hq64
      rw [hat, hNq] at heq
      obtain ⟨Mv, hMv⟩ : ∃ Mv, Mk (q : Int) = Mv := ⟨_, rfl⟩
      rw [hMv] at heq
      cases Mv with
      | none => exact heq.elim
      | some vv =>
      obtain ⟨A2, c2, B2, d2, rfl, hla⟩ := heq
      obtain ⟨hva, hxo, hl1, hl2⟩ := hok.out q hh hNq
      have hage := hva.2.2.1
      have ho14b := ho14
      rw [hL.out] at ho14b
      have r14 := own_slice ho14b
      clear ho14b
      have L := hmk.run_at (i := (q : Int)) (wf64 (by omega) (by omega))
      rw [hMv] at L
      simp only [Option.getD_some] at L
      unfold hdV at L
      obtain ⟨b14, off14, rfl, hz14⟩ := rd_at r14 (by simpa using Nat.lt_of_le_of_lt (Nat.zero_le _) hkl)
      have z14 : wr.cell? ⟨b14, off14 + k, none⟩ = some (.int .i64 (q : Int)) := hz14 k _ (by rw [List.getElem?_map, List.getElem?_eq_getElem hkl, hq]; rfl)
      clear hz14 r14
      have hnext : Hid (∀ (wr' : World) (v5' : Value) (es' : List Int) (Mn : Int → Option Value), MapIs wr' b (fun j => if j = (q : Int) then Mn q else Mk j) → ElAt w (Mn q) (tickN n N q) → wr'.cell? ⟨g, 0, none⟩ = some (.map (some b)) → w.grownBy wr' (some b) →
          wr'.ownsRow w.heap.size 3 1 (.slice (some ⟨b14, off14, none⟩) len c) (orgs N).length ((orgs N).map encZ) → wr'.ownsRow B 3 1 v5' es'.length (es'.map encZ) → es' = es ++ (if expH n (N q) = true then [(q : Int)] else []) → B ≤ wr'.heap.size →
          TkAt w wr' g b N n B (.slice (some ⟨b14, off14, none⟩) len c) v5' (k + 1) es') := fun wr' v5' es' Mn h1 h2 h3 h4 h5 h6 h7 h8 => by
        refine ⟨⟨_, h1, fun i hi => ?_⟩, h3, h4, h5, h6, by rw [h7, htake, ← hes2], h8⟩
        rw [hsucc]
        by_cases e : i = q
        · subst e; simp only [if_true]; exact h2
        · have e' : ¬ (i : Int) = (q : Int) := by omega
          simp only [if_neg e, if_neg e']
          exact hek i hi
      clear hsucc htake hat hek hmem hq hkl hT
      replace hes2 := Lib.hid hes2
      replace hMv := Lib.hid hMv
      replace hxo := Lib.hid hxo
      replace hNq := Lib.hid hNq
      have htk : Hid (tickN n N q = (tickH n hh).1 ∧ expH n (N q) = (tickH n hh).2) := by
        show _ ∧ _
        unfold tickN expH
        rw [hNq.out]
        exact ⟨rfl, rfl⟩
      have b9 := below_new' wr (.cells #[.int .i64 hh.x.o, .int .i64 hh.x.s, .int .i64 hh.x.a, .bool hh.x.ov, .slice A2 hh.x.adj.length c2, .slice B2 hh.x.pre.length d2, .int .i64 hh.l] 89)
      have hT0 : TkW w (wr.alloc (.cells #[.int .i64 hh.x.o, .int .i64 hh.x.s, .int .i64 hh.x.a, .bool hh.x.ov, .slice A2 hh.x.adj.length c2, .slice B2 hh.x.pre.length d2, .int .i64 hh.l] 89)) g b Mk N B (.slice (some ⟨b14, off14, none⟩) len c) u5 es wr.heap.size [.int .i64 hh.x.o, .int .i64 hh.x.s, .int .i64 hh.x.a, .bool hh.x.ov, .slice A2 hh.x.adj.length c2, .slice B2 hh.x.pre.length d2, .int .i64 hh.l] :=
        ⟨hmk.below b9, cell_later b9 hck, hgr.trans (below_row b9 (some b)), own_below ho14 b9, own_below ho5 b9, hlt14.out, fun bb e => by have := (ho5.lt bb e).2; omega, Box.new' wr #[.int .i64 hh.x.o, .int .i64 hh.x.s, .int .i64 hh.x.a, .bool hh.x.ov, .slice A2 hh.x.adj.length c2, .slice B2 hh.x.pre.length d2, .int .i64 hh.l] 89 wr.heap.size _ rfl rfl, by simp, hsz, hw1, hgl, hbl⟩
      go_upto_region 9 with fail
      clear z14 L hmk hck hgr ho14 ho5 hsz b9
      generalize wr.alloc _ = w2 at *
      generalize wr.heap.size = g2 at *
      by_cases hA : hh.x.a < 3600
      · by_cases hB1 : n < 3600 - hh.x.a
        · have hval : tickH n hh = (some ⟨{ hh.x with a := hh.x.a + n }, hh.l⟩, false) := by unfold tickH; rw [if_pos hA, if_pos hB1]
          have e1 := htk.out.1
          have e2 := htk.out.2
          rw [hval] at e1 e2
          have hel : Hid (ElAt w (some (.agg #[.int .i64 hh.x.o, .int .i64 hh.x.s, .int .i64 (hh.x.a + n), .bool hh.x.ov, .slice A2 hh.x.adj.length c2, .slice B2 hh.x.pre.length d2, .int .i64 hh.l])) (tickN n N q)) := by
            show ElAt _ _ _
            rw [e1]
            exact ⟨A2, c2, B2, d2, rfl, hla.renum hh.x.o hh.x.s (hh.x.a + n) hh.x.ov⟩
          have e3 : Hid (es = es ++ (if expH n (N q) = true then [(q : Int)] else [])) := by show _ = _; rw [e2]; simp
          have a2 := hT0.bx.c 2 rfl
          have f2 := hT0.bx.f 2 rfl
          have hT1 := hT0.set 2 (.int .i64 (hh.x.a + n)) (by simp) [.int .i64 hh.x.o, .int .i64 hh.x.s, .int .i64 (hh.x.a + n), .bool hh.x.ov, .slice A2 hh.x.adj.length c2, .slice B2 hh.x.pre.length d2, .int .i64 hh.l] rfl
          clear e1 e2 hval htk hla
          go_upto_region 12 with fail
          clear a2 f2 hT0
          generalize World.setCell _ _ _ = w3 at *
          have TD := hT1.drew
          have c1 := TD.c
          have y0 := TD.bx.c 0 rfl
          have y1 := TD.bx.c 1 rfl
          have y2 := TD.bx.c 2 rfl
          have y3 := TD.bx.c 3 rfl
          have y4 := TD.bx.c 4 rfl
          have y5 := TD.bx.c 5 rfl
          have y6 := TD.bx.c 6 rfl
          obtain ⟨w9, run9, hm9, hg9⟩ := TD.hm.run_put (i := (q : Int)) (by omega) (by omega) (.agg #[.int .i64 hh.x.o, .int .i64 hh.x.s, .int .i64 (hh.x.a + n), .bool hh.x.ov, .slice A2 hh.x.adj.length c2, .slice B2 hh.x.pre.length d2, .int .i64 hh.l])
          obtain ⟨t1, t2, t3, t4, t5⟩ := TD.fin hg9
          have hT9 := hnext.out w9 u5 es (fun _ => some (.agg #[.int .i64 hh.x.o, .int .i64 hh.x.s, .int .i64 (hh.x.a + n), .bool hh.x.ov, .slice A2 hh.x.adj.length c2, .slice B2 hh.x.pre.length d2, .int .i64 hh.l])) hm9 (hel.out) t1 t2 t3 t4 (e3.out) t5
          replace hT9 := Lib.hid hT9
          clear hm9 hg9 t1 t2 t3 t4 t5 TD hT1
          go_region_law (fail)
          all_goals
            clear run9 y0 y1 y2 y3 y4 y5 y6 c1
            go_wp2_with fail
            go_round
            case rel => exact ⟨k + 1, es, by go_num, by omega, by omega, hT9⟩
            case measure => simp [intOf]; omega
        · have e1 := htk.out.1
          have e2 := htk.out.2
          have hval : tickH n hh = (if 60 ≤ n - (3600 - hh.x.a) then none else some ⟨purgeX hh.x, 60 - (n - (3600 - hh.x.a))⟩, true) := by unfold tickH; rw [if_pos hA, if_neg hB1]
          rw [hval] at e1 e2
          simp only at e1 e2
          have e3 : Hid (es ++ [(q : Int)] = es ++ (if expH n (N q) = true then [(q : Int)] else [])) := by show _ = _; rw [e2]; simp
          have P0 := lpurge_any w2 _ hh.x (hla.keptMap hm.out hT0.gr).1
          unfold PurgePost purgeE purgeV at P0
          rw [vB_t hva, if_pos rfl, if_pos rfl] at P0
          have P : Calls Try.prog 54 #[laV hh.x.o hh.x.s hh.x.a hh.x.ov A2 hh.x.adj.length c2 B2 hh.x.pre.length d2] w2 (fun e w' => ∃ A3 c3 B3 d3, e = .returned (.tuple #[laV hh.x.o hh.x.s 3600 false A3 0 c3 B3 0 d3, .int .i64 0]) ∧ LaAt w (laV hh.x.o hh.x.s 3600 false A3 0 c3 B3 0 d3) (purgeX hh.x) ∧ Below w2.heap.size w2 w') := P0.mono (by
            rintro e w' ⟨v3, he, ⟨A3, c3, B3, d3, rfl, o1, o2, hu⟩, hb⟩
            obtain ⟨A8, c8, e8, _, l8, m8⟩ := own_rd o1
            obtain ⟨A9, c9, e9, _, l9, m9⟩ := own_rd o2
            injection e8 with e8 e8' e8''
            injection e9 with e9 e9' e9''
            subst e8 e8'' e9 e9''
            exact ⟨A3, c3, B3, d3, he, ⟨A3, c3, B3, d3, rfl, Rd.nil _ _, Rd.nil _ _, by simp [purgeX], m8, by simp [purgeX], m9, by simp [purgeX]⟩, hb⟩)
          clear P0
          replace P := Lib.hid P
          replace e1 := Lib.hid e1
          clear e2 hval htk hla
          obtain ⟨rest, hrest⟩ : ∃ z, n - (3600 - hh.x.a) = z := ⟨_, rfl⟩
          have hr0 : 0 ≤ rest := by omega
          have hr1 : rest ≤ 1000000 := by omega
          have a0 := hT0.bx.c 0 rfl
          have a1 := hT0.bx.c 1 rfl
          have a2 := hT0.bx.c 2 rfl
          have a3 := hT0.bx.c 3 rfl
          have a4 := hT0.bx.c 4 rfl
          have a5 := hT0.bx.c 5 rfl
          rw [hrest] at e1
          go_upto_region 14 with fail
          clear hrest
          go_wp2_with fail
          (with_reducible refine (P.out).mono ?_)
          rintro e w3 ⟨A3, c3, B3, d3, rfl, hl3, hb⟩
          replace hl3 := Lib.hid hl3
          have hT1 := hT0.below hb
          clear P a0 a1 a2 a3 a4 a5 hT0 hb
          have hT2 := ((((((hT1.set 0 (.int .i64 hh.x.o) (by simp) _ rfl).set 1 (.int .i64 hh.x.s) (by simp) _ rfl).set 2 (.int .i64 3600) (by simp) _ rfl).set 3 (.bool false) (by simp) _ rfl).set 4 (.slice A3 0 c3) (by simp) _ rfl).set 5 (.slice B3 0 d3) (by simp) [.int .i64 hh.x.o, .int .i64 hh.x.s, .int .i64 3600, .bool false, .slice A3 0 c3, .slice B3 0 d3, .int .i64 hh.l] rfl)
          have a0 := hT1.bx.c 0 rfl
          have a1 := hT1.bx.c 1 rfl
          have a2 := hT1.bx.c 2 rfl
          have a3 := hT1.bx.c 3 rfl
          have a4 := hT1.bx.c 4 rfl
          have a5 := hT1.bx.c 5 rfl
          have f0 := hT1.bx.f 0 rfl
          have f1 := hT1.bx.f 1 rfl
          have f2 := hT1.bx.f 2 rfl
          have f3 := hT1.bx.f 3 rfl
          have f4 := hT1.bx.f 4 rfl
          have f5 := hT1.bx.f 5 rfl
          go_upto_region 15 with fail
          clear a0 a1 a2 a3 a4 a5 f0 f1 f2 f3 f4 f5 hT1
          generalize World.setCell _ _ _ = w4 at *
          have a6 := hT2.bx.c 6 rfl
          have f6 := hT2.bx.f 6 rfl
          have hT3 := hT2.set 6 (.int .i64 60) (by simp) [.int .i64 hh.x.o, .int .i64 hh.x.s, .int .i64 3600, .bool false, .slice A3 0 c3, .slice B3 0 d3, .int .i64 60] rfl
          go_upto_region 16 with fail
          clear a6 f6 hT2
          generalize World.setCell _ _ _ = w5 at *
          have hT4 := hT3.below (below_new' w5 (.cells #[.int .i64 (q : Int)] 3))
          have rd0 := Rd.lit w5 #[.int .i64 (q : Int)] 3
          have o5 := hT4.o5
          have hsz4 := hT4.sz
          have hes64 : es.length ≤ 64 := by omega
          clear hT3
          by_cases hR : 60 ≤ rest
          · have e4 : Hid (ElAt w none (tickN n N q)) := by show ElAt _ _ _; rw [e1.out, if_pos hR]; trivial
            clear e1
            go_wp2_with (at_builtin; refine wpList_appB rfl intT (.tmp 64) (.tmp 66) rfl B rfl o5 (m := 1) rfl (by simp) rd0 (by simp [Value.oneCell']) (by simp only [maxLen]; omega) (by omega) hsz4 (es.length + 1) ((es ++ [(q : Int)]).map encZ) rfl (by simp) ?_; intro v6 w6 o6 hbel6 hg6 hv6; have hT5 := hT4.app (es' := es ++ [(q : Int)]) (by rw [List.length_append]; exact o6) hbel6 hg6 hv6; have a6 := hT5.bx.c 6 rfl; clear o6 hbel6 hg6 hv6; have c1 := hT5.c; obtain ⟨w9, run9, hm9, hg9⟩ := hT5.hm.run_del (i := (q : Int)) (wf64 (by omega) (by omega)) 0)
            obtain ⟨t1, t2, t3, t4, t5⟩ := hT5.fin hg9
            have hT9 := hnext.out w9 v6 (es ++ [(q : Int)]) (fun _ => none) hm9 (e4.out) t1 t2 t3 t4 (e3.out) t5
            replace hT9 := Lib.hid hT9
            clear hm9 hg9 t1 t2 t3 t4 t5
            go_wp2_with fail
            go_round
            case rel => exact ⟨k + 1, (es ++ [(q : Int)]), by go_num, by omega, by rw [List.length_append, List.length_singleton]; omega, hT9⟩
            case measure => simp [intOf]; omega
          · have e4 : Hid (ElAt w (some (.agg #[.int .i64 hh.x.o, .int .i64 hh.x.s, .int .i64 3600, .bool false, .slice A3 0 c3, .slice B3 0 d3, .int .i64 (60 - rest)])) (tickN n N q)) := by
              show ElAt _ _ _
              rw [e1.out, if_neg hR]
              exact ⟨A3, c3, B3, d3, rfl, hl3.out, fun h => absurd h (by simp [purgeX]), fun h => absurd h (by simp [purgeX])⟩
            clear e1
            go_wp2_with (at_builtin; refine wpList_appB rfl intT (.tmp 64) (.tmp 66) rfl B rfl o5 (m := 1) rfl (by simp) rd0 (by simp [Value.oneCell']) (by simp only [maxLen]; omega) (by omega) hsz4 (es.length + 1) ((es ++ [(q : Int)]).map encZ) rfl (by simp) ?_; intro v6 w6 o6 hbel6 hg6 hv6; have hT5 := hT4.app (es' := es ++ [(q : Int)]) (by rw [List.length_append]; exact o6) hbel6 hg6 hv6; have a6 := hT5.bx.c 6 rfl; clear o6 hbel6 hg6 hv6; have f6 := hT5.bx.f 6 rfl)
            have hT6 := hT5.set 6 (.int .i64 (60 - rest)) (by simp) [.int .i64 hh.x.o, .int .i64 hh.x.s, .int .i64 3600, .bool false, .slice A3 0 c3, .slice B3 0 d3, .int .i64 (60 - rest)] rfl
            clear a6 f6 hT5 hT4 o5 rd0
            generalize World.setCell _ _ _ = w7 at *
            have TD := hT6.drew
            have c1 := TD.c
            have y0 := TD.bx.c 0 rfl
            have y1 := TD.bx.c 1 rfl
            have y2 := TD.bx.c 2 rfl
            have y3 := TD.bx.c 3 rfl
            have y4 := TD.bx.c 4 rfl
            have y5 := TD.bx.c 5 rfl
            have y6 := TD.bx.c 6 rfl
            obtain ⟨w9, run9, hm9, hg9⟩ := TD.hm.run_put (i := (q : Int)) (by omega) (by omega) (.agg #[.int .i64 hh.x.o, .int .i64 hh.x.s, .int .i64 3600, .bool false, .slice A3 0 c3, .slice B3 0 d3, .int .i64 (60 - rest)])
            obtain ⟨t1, t2, t3, t4, t5⟩ := TD.fin hg9
            have hT9 := hnext.out w9 v6 (es ++ [(q : Int)]) (fun _ => some (.agg #[.int .i64 hh.x.o, .int .i64 hh.x.s, .int .i64 3600, .bool false, .slice A3 0 c3, .slice B3 0 d3, .int .i64 (60 - rest)])) hm9 (e4.out) t1 t2 t3 t4 (e3.out) t5
            replace hT9 := Lib.hid hT9
            clear hm9 hg9 t1 t2 t3 t4 t5 TD hT6
            go_region_law (fail)
            all_goals
              clear run9 y0 y1 y2 y3 y4 y5 y6 c1
              go_wp2_with fail
              go_round
              case rel => exact ⟨k + 1, (es ++ [(q : Int)]), by go_num, by omega, by rw [List.length_append, List.length_singleton]; omega, hT9⟩
              case measure => simp [intOf]; omega
      · have hval : tickH n hh = (if hh.l ≤ n then none else some ⟨hh.x, hh.l - n⟩, false) := by unfold tickH; rw [if_neg hA]
        have e1 := htk.out.1
        have e2 := htk.out.2
        rw [hval] at e1 e2
        simp only at e1 e2
        have e3 : Hid (es = es ++ (if expH n (N q) = true then [(q : Int)] else [])) := by show _ = _; rw [e2]; simp
        have a2 := hT0.bx.c 2 rfl
        have a6 := hT0.bx.c 6 rfl
        by_cases hR : hh.l ≤ n
        · have e4 : Hid (ElAt w none (tickN n N q)) := by show ElAt _ _ _; rw [e1, if_pos hR]; trivial
          clear e1 e2 hval htk hla
          obtain ⟨w9, run9, hm9, hg9⟩ := hT0.hm.run_del (i := (q : Int)) (wf64 (by omega) (by omega)) 0
          obtain ⟨t1, t2, t3, t4, t5⟩ := hT0.fin hg9
          have hT9 := hnext.out w9 u5 es (fun _ => none) hm9 (e4.out) t1 t2 t3 t4 (e3.out) t5
          replace hT9 := Lib.hid hT9
          have c1 := hT0.c
          clear hm9 hg9 t1 t2 t3 t4 t5
          go_wp2_with fail
          go_round
          case rel => exact ⟨k + 1, es, by go_num, by omega, by omega, hT9⟩
          case measure => simp [intOf]; omega
        · have e4 : Hid (ElAt w (some (.agg #[.int .i64 hh.x.o, .int .i64 hh.x.s, .int .i64 hh.x.a, .bool hh.x.ov, .slice A2 hh.x.adj.length c2, .slice B2 hh.x.pre.length d2, .int .i64 (hh.l - n)])) (tickN n N q)) := by
            show ElAt _ _ _
            rw [e1, if_neg hR]
            exact ⟨A2, c2, B2, d2, rfl, hla⟩
          clear e1 e2 hval htk hla
          have f6 := hT0.bx.f 6 rfl
          have hT1 := hT0.set 6 (.int .i64 (hh.l - n)) (by simp) [.int .i64 hh.x.o, .int .i64 hh.x.s, .int .i64 hh.x.a, .bool hh.x.ov, .slice A2 hh.x.adj.length c2, .slice B2 hh.x.pre.length d2, .int .i64 (hh.l - n)] rfl
          go_upto_region 20 with fail
          clear a2 a6 f6 hT0
          generalize World.setCell _ _ _ = w3 at *
          have TD := hT1.drew
          have c1 := TD.c
          have y0 := TD.bx.c 0 rfl
          have y1 := TD.bx.c 1 rfl
          have y2 := TD.bx.c 2 rfl
          have y3 := TD.bx.c 3 rfl
          have y4 := TD.bx.c 4 rfl
          have y5 := TD.bx.c 5 rfl
          have y6 := TD.bx.c 6 rfl
          obtain ⟨w9, run9, hm9, hg9⟩ := TD.hm.run_put (i := (q : Int)) (by omega) (by omega) (.agg #[.int .i64 hh.x.o, .int .i64 hh.x.s, .int .i64 hh.x.a, .bool hh.x.ov, .slice A2 hh.x.adj.length c2, .slice B2 hh.x.pre.length d2, .int .i64 (hh.l - n)])
          obtain ⟨t1, t2, t3, t4, t5⟩ := TD.fin hg9
          have hT9 := hnext.out w9 u5 es (fun _ => some (.agg #[.int .i64 hh.x.o, .int .i64 hh.x.s, .int .i64 hh.x.a, .bool hh.x.ov, .slice A2 hh.x.adj.length c2, .slice B2 hh.x.pre.length d2, .int .i64 (hh.l - n)])) hm9 (e4.out) t1 t2 t3 t4 (e3.out) t5
          replace hT9 := Lib.hid hT9
          clear hm9 hg9 t1 t2 t3 t4 t5 TD hT1
          go_region_law (fail)
          all_goals
            clear run9 y0 y1 y2 y3 y4 y5 y6 c1
            go_wp2_with fail
            go_round
            case rel => exact ⟨k + 1, es, by go_num, by omega, by omega, hT9⟩
            case measure => simp [intOf]; omega
    · obtain rfl : k = len := by omega
      have hf := hfin.out _ _ _ _ _ hw1 hT.out
      replace hf := Lib.hid hf
      clear hT
      go_wp2_with fail
      go_ret
      exact hf.out

end Go.Proofs.Ytkmpmgojgidcgaa

namespace Go.Proofs.Ytkmpmgojgidcgaa
set_option linter.unusedVariables false
open Go.RowKit Go.Maps Go.Sort

set_option maxRecDepth 100000 in
set_option maxHeartbeats 800000 in
theorem dinstall_nil (w : World) (v : Value) (x : La) (h : LaAt w v x) : Calls Try.prog 14 #[.pointer none, v] w fun e w' => e = .returned (.tuple #[.int .i64 0, .int .i64 7]) ∧ Below w.heap.size w w' := by
  obtain ⟨A, c, B, d, rfl⟩ := h.form
  have hb := below_new' w (.cells #[.int .i64 x.o, .int .i64 x.s, .int .i64 x.a, .bool x.ov, .slice A x.adj.length c, .slice B x.pre.length d] 30)
  go_enter Try.func14, Try.ntmps14
  go_wp2_with fail
  go_ret2
  exact ⟨rfl, hb⟩

set_option maxRecDepth 100000 in
set_option maxHeartbeats 800000 in
theorem dget_nil (w : World) (i : Int) : Calls Try.prog 15 #[.pointer none, .int .i64 i] w fun e w' => e = .returned (.tuple #[laV 0 0 0 false none 0 0 none 0 0, .bool false]) ∧ Below w.heap.size w w' := by
  have S := (St.start w).new' #[.int .i64 0, .int .i64 0, .int .i64 0, .bool false, .slice none 0 0, .slice none 0 0] 30 w.heap.size _ rfl rfl
  have r0 := S.c 0 0 rfl rfl
  have r1 := S.c 0 1 rfl rfl
  have r2 := S.c 0 2 rfl rfl
  have r3 := S.c 0 3 rfl rfl
  have r4 := S.c 0 4 rfl rfl
  have r5 := S.c 0 5 rfl rfl
  have f0 := S.f 0 0 rfl rfl
  have f1 := S.f 0 1 rfl rfl
  have f2 := S.f 0 2 rfl rfl
  have f3 := S.f 0 3 rfl rfl
  have f4 := S.f 0 4 rfl rfl
  have f5 := S.f 0 5 rfl rfl
  have hb := S.b
  go_enter Try.func15, Try.ntmps15
  go_wp2_with fail
  exact bodyPost_ret (v := .tuple #[laV 0 0 0 false none 0 0 none 0 0, .bool false]) (by simp [results, Try.results15, go_sem, r0, r1, r2, r3, r4, r5]) rfl ⟨rfl, hb⟩

set_option maxRecDepth 100000 in
set_option maxHeartbeats 800000 in
theorem dorigins_nil (w : World) : Calls Try.prog 43 #[.pointer none] w fun e w' => e = .returned (.slice none 0 0) ∧ w = w' := by
  go_enter Try.func43, Try.ntmps43
  go_wp2_with fail
  go_ret
  exact ⟨rfl, rfl⟩

set_option maxRecDepth 100000 in
set_option maxHeartbeats 1600000 in
theorem dtick_nil (w : World) : Calls Try.prog 32 #[.pointer none, .int .i64 1] w fun e w' => e = .returned (.slice none 0 0) ∧ Below w.heap.size w w' := by
  have hb := Below.refl w.heap.size w
  go_enter Try.func32, Try.ntmps32
  go_wp2_with fail
  (with_reducible refine (dorigins_nil _).mono ?_)
  rintro e w1 ⟨rfl, rfl⟩
  go_wp2_with fail
  go_loopw [5, 16] (fun v5 v16 wr => v5 = .slice none 0 0 ∧ v16 = .int .i64 0 ∧ wr = w) (fun _ _ _ => 0)
  case atStart => exact ⟨rfl, rfl, rfl⟩
  case round =>
    obtain ⟨rfl, rfl, rfl⟩ := hrel
    go_wp2_with fail
    go_ret
    exact ⟨rfl, hb⟩

set_option maxRecDepth 100000 in
set_option maxHeartbeats 1600000 in
theorem dall_nil (w : World) : Calls Try.prog 21 #[.pointer none] w fun e w' => e = .returned (.slice none 0 0) ∧ Below w.heap.size w w' := by
  have hb := Below.refl w.heap.size w
  go_enter Try.func21, Try.ntmps21
  go_wp2_with fail
  (with_reducible refine (dorigins_nil _).mono ?_)
  rintro e w1 ⟨rfl, rfl⟩
  go_wp2_with fail
  go_loopw [3, 9] (fun v5 v16 wr => v5 = .slice none 0 0 ∧ v16 = .int .i64 0 ∧ wr = w) (fun _ _ _ => 0)
  case atStart => exact ⟨rfl, rfl, rfl⟩
  case round =>
    obtain ⟨rfl, rfl, rfl⟩ := hrel
    go_wp2_with fail
    go_ret
    exact ⟨rfl, hb⟩

set_option maxRecDepth 100000 in
set_option maxHeartbeats 1600000 in
theorem ddigest_nil (w : World) : Calls Try.prog 23 #[.pointer none] w fun e w' => e = .returned (.slice none 0 0) ∧ Below w.heap.size w w' := by
  have hb := Below.refl w.heap.size w
  go_enter Try.func23, Try.ntmps23
  go_wp2_with fail
  (with_reducible refine (dorigins_nil _).mono ?_)
  rintro e w1 ⟨rfl, rfl⟩
  go_wp2_with fail
  go_loopw [3, 10] (fun v5 v16 wr => v5 = .slice none 0 0 ∧ v16 = .int .i64 0 ∧ wr = w) (fun _ _ _ => 0)
  case atStart => exact ⟨rfl, rfl, rfl⟩
  case round =>
    obtain ⟨rfl, rfl, rfl⟩ := hrel
    go_wp2_with fail
    go_ret
    exact ⟨rfl, hb⟩

end Go.Proofs.Ytkmpmgojgidcgaa

namespace Go.Proofs.Ytkmpmgojgidcgaa
set_option linter.unusedVariables false
open Go.RowKit Go.Maps Go.Sort

theorem below_via {B : Nat} {w0 w w' : World} {g : Nat} (h : Below B w0 w) (hg : w.grownBy w' (some g)) (hB : B ≤ g) (hs : B ≤ w.heap.size) : Below B w0 w' := h.grown hg hs (fun k hk => by injection hk with hk; omega)
theorem equB_refl' (x : La) : equB x x = true := by simp [equB, sameB, conB]
/-- An advertisement without adjacencies and prefixes. -/
def bare (o s a : Int) (ov : Bool) : La := ⟨o, s, a, ov, [], []⟩
theorem bare_at (w : World) (o s a : Int) (ov : Bool) : LaAt w (laV o s a ov none 0 0 none 0 0) (bare o s a ov) := ⟨none, 0, none, 0, rfl, Rd.nil _ _, Rd.nil _ _, by simp [bare], by simp [maxLen], by simp [bare], by simp [maxLen], by simp [bare]⟩
theorem bare_valid (o s a : Int) (ov : Bool) (h0 : 0 ≤ o) (h1 : o ≤ 63) (h2 : 1 ≤ s) (h3 : s ≤ 1073741824) (h4 : 0 ≤ a) (h5 : a < 3600) : LaValid (bare o s a ov) := by
  refine ⟨⟨h0, h1⟩, ⟨h2, h3⟩, ⟨h4, by simp only [bare]; omega⟩, by simp [bare], by simp [bare], fun h => by simp only [bare] at h; omega, fun k x hk => by simp [bare] at hk, fun k x hk => by simp [bare] at hk⟩
theorem bare_purge (o s : Int) (h0 : 0 ≤ o) (h1 : o ≤ 63) (h2 : 1 ≤ s) (h3 : s ≤ 1073741824) : LaValid (bare o s 3600 false) := by
  refine ⟨⟨h0, h1⟩, ⟨h2, h3⟩, by simp [bare], by simp [bare], by simp [bare], fun h => by simp [bare], fun k x hk => by simp [bare] at hk, fun k x hk => by simp [bare] at hk⟩
theorem newI_s {x y : La} (hx : LaValid x) (hy : LaValid y) (h : x.s ≠ y.s) : newI x y = cmpI x.s y.s := by
  unfold newI
  rw [vB_t hx, vB_t hy, if_pos ⟨rfl, rfl⟩, if_neg h]

def one (x : La) (l : Int) : Db := fun i => if i = 2 then some ⟨x, l⟩ else none
theorem orgs_one (x : La) (l : Int) : orgs (one x l) = [2] := by rfl
theorem one_ok {x : La} {l : Int} (hx : LaValid x) (ho : x.o = 2) (h1 : 1 ≤ l) (h2 : l ≤ 60) : DbOk (one x l) := by
  intro i h e
  unfold one at e
  split at e
  · injection e with e; subst e; rename_i hi; subst hi
    exact ⟨hx, ho, h1, h2⟩
  · cases e
theorem one_small (x : La) (l : Int) : ∀ i, 64 ≤ i → one x l i = none := fun i hi => by unfold one; rw [if_neg (by omega)]
theorem v4 : LaValid (bare 2 4 0 false) := bare_valid 2 4 0 false (by omega) (by omega) (by omega) (by omega) (by omega) (by omega)
theorem v3 : LaValid (bare 2 3 0 false) := bare_valid 2 3 0 false (by omega) (by omega) (by omega) (by omega) (by omega) (by omega)
theorem v5 : LaValid (bare 2 5 0 false) := bare_valid 2 5 0 false (by omega) (by omega) (by omega) (by omega) (by omega) (by omega)
theorem v6 : LaValid (bare 2 5 3600 false) := bare_purge 2 5 (by omega) (by omega) (by omega) (by omega)
theorem n34 : newI (bare 2 3 0 false) (bare 2 4 0 false) = -1 := by rw [newI_s v3 v4 (by simp [bare])]; simp [bare, cmpI]
theorem n54 : newI (bare 2 5 0 false) (bare 2 4 0 false) = 1 := by rw [newI_s v5 v4 (by simp [bare])]; simp [bare, cmpI]
theorem aw_r1 : instR (fun _ => none) (bare 2 4 0 false) = 1 := by unfold instR; rw [vB_t v4, if_pos rfl]
theorem aw_r2 : instR (one (bare 2 4 0 false) 60) (bare 2 3 0 false) = 3 := by
  unfold instR; rw [vB_t v3, if_pos rfl, show one (bare 2 4 0 false) 60 (bare 2 3 0 false).o.toNat = some ⟨bare 2 4 0 false, 60⟩ from rfl]
  simp only [n34]; simp
theorem aw_r3 : instR (one (bare 2 4 0 false) 60) (bare 2 5 0 false) = 1 := by
  unfold instR; rw [vB_t v5, if_pos rfl, show one (bare 2 4 0 false) 60 (bare 2 5 0 false).o.toNat = some ⟨bare 2 4 0 false, 60⟩ from rfl]
  simp only [n54]; simp
theorem aw_e {x : La} (h : LaValid x) : instE x = 0 := by unfold instE; rw [vB_t h, if_pos rfl]
theorem aw_n1 : instN (fun _ => none) (bare 2 4 0 false) = one (bare 2 4 0 false) 60 := by
  unfold instN; rw [aw_r1, vB_t v4, if_pos ⟨rfl, rfl⟩]; funext i; unfold one; rfl
theorem aw_n2 : instN (one (bare 2 4 0 false) 60) (bare 2 3 0 false) = one (bare 2 4 0 false) 60 := by
  unfold instN; rw [aw_r2, if_neg (by omega)]
theorem aw_n3 : instN (one (bare 2 4 0 false) 60) (bare 2 5 0 false) = one (bare 2 5 0 false) 60 := by
  unfold instN; rw [aw_r3, vB_t v5, if_pos ⟨rfl, rfl⟩]; funext i
  by_cases h : i = 2
  · subst h; rfl
  · unfold one
    rw [if_neg h, if_neg (by show ¬ i = 2; exact h), if_neg h]
theorem aw_t1 : tickN 3600 (one (bare 2 5 0 false) 60) = one (bare 2 5 3600 false) 60 := by
  funext i
  by_cases h : i = 2
  · subst h; simp [tickN, one, tickH, bare, purgeX]
  · simp [tickN, one, h]
theorem aw_l1 : tickL 3600 (one (bare 2 5 0 false) 60) = [2] := by
  unfold tickL; rw [orgs_one]; simp [expH, one, tickH, bare]
theorem aw_t2 : tickN 60 (one (bare 2 5 3600 false) 60) = fun _ => none := by
  funext i
  by_cases h : i = 2
  · subst h; simp [tickN, one, tickH, bare]
  · simp [tickN, one, h]
theorem aw_l2 : tickL 60 (one (bare 2 5 3600 false) 60) = [] := by
  unfold tickL; rw [orgs_one]; simp [expH, one, tickH, bare]

end Go.Proofs.Ytkmpmgojgidcgaa

namespace Go.Proofs.Ytkmpmgojgidcgaa
set_option linter.unusedVariables false
open Go.RowKit Go.Maps Go.Sort

set_option maxRecDepth 100000 in
set_option maxHeartbeats 6400000 in
theorem awake_any (w : World) : Calls Try.prog 10 #[] w fun e w' => e = .returned (.bool true) ∧ Below w.heap.size w w' := by
  go_enter Try.func10, Try.ntmps10
  go_wp2_with fail
  (with_reducible refine (dnew_any _).mono ?_)
  rintro e w1 ⟨rfl, D, B⟩
  have I := dinstall_any w1 _ _ _ _ (bare 2 4 0 false) D (bare_at w1 2 4 0 false)
  unfold InstPost at I
  rw [aw_r1, aw_e v4, aw_n1] at I
  replace I := Lib.hid I
  clear D
  go_wp2_with fail
  (with_reducible refine (I.out).mono ?_)
  rintro e w2 ⟨rfl, D, hg⟩
  clear I
  replace B := below_via B hg (Nat.le_refl _) B.size
  have I := dinstall_any w2 _ _ _ _ (bare 2 3 0 false) D (bare_at w2 2 3 0 false)
  unfold InstPost at I
  rw [aw_r2, aw_e v3, aw_n2] at I
  replace I := Lib.hid I
  clear D hg
  go_wp2_with fail
  (with_reducible refine (I.out).mono ?_)
  rintro e w3 ⟨rfl, D, hg⟩
  clear I
  replace B := below_via B hg (Nat.le_refl _) B.size
  have I := dinstall_any w3 _ _ _ _ (bare 2 5 0 false) D (bare_at w3 2 5 0 false)
  unfold InstPost at I
  rw [aw_r3, aw_e v5, aw_n3] at I
  replace I := Lib.hid I
  clear D hg
  go_wp2_with fail
  (with_reducible refine (I.out).mono ?_)
  rintro e w4 ⟨rfl, D, hg⟩
  clear I
  replace B := below_via B hg (Nat.le_refl _) B.size
  have I := dtick_any w4 _ _ _ 3600 D (one_ok v5 rfl (by omega) (by omega)) (one_small _ _) (by omega) (by omega)
  unfold DTickPost at I
  rw [aw_t1, aw_l1] at I
  replace I := Lib.hid I
  clear D hg
  go_wp2_with fail
  (with_reducible refine (I.out).mono ?_)
  rintro e w5 ⟨v5, rfl, o5, D, hg⟩
  clear I
  replace B := below_via B hg (Nat.le_refl _) B.size
  obtain ⟨g5, c5, hv5, r5⟩ : ∃ g5 c5, v5 = .slice (some ⟨g5, 0, none⟩) 1 c5 ∧ Rd w5 (some ⟨g5, 0, none⟩) [.int .i64 2] := by
    obtain ⟨A, c, e, r, _⟩ := own_rd o5
    rcases o5.2 with ⟨e1, h0⟩ | ⟨g, cap, cur, e1, _⟩
    · simp at h0
    · rw [e] at e1
      injection e1 with e1 e2 e3
      exact ⟨g, c, by rw [e, e1]; rfl, by rw [← e1]; exact r⟩
  subst hv5
  clear o5
  have I := dget_any w5 _ _ _ 2 (by decide) D (one_ok v6 rfl (by omega) (by omega) : DbOk (one (bare 2 5 3600 false) 60)).few
  rw [show getO (one (bare 2 5 3600 false) 60) 2 = some ⟨bare 2 5 3600 false, 60⟩ from rfl] at I
  unfold GetPost at I
  rw [show getX (some ⟨bare 2 5 3600 false, 60⟩) = bare 2 5 3600 false from rfl] at I
  rw [show (some (⟨bare 2 5 3600 false, 60⟩ : Hd)).isSome = true from rfl] at I
  replace I := Lib.hid I
  clear hg
  go_wp2_with fail
  (with_reducible refine (I.out).mono ?_)
  rintro e w6 ⟨v6, rfl, hown, hb⟩
  clear I
  obtain ⟨A7, c7, B7, d7, hv7, hL7⟩ := hown.open
  have hv8 : v6 = laV 2 5 3600 false A7 0 c7 B7 0 d7 := hv7
  clear hv7
  subst hv8
  have hbb := below_new' w6 (.cells #[.int .i64 2, .int .i64 5, .int .i64 3600, .bool false, .slice A7 0 c7, .slice B7 0 d7] 30)
  have h7 := hL7.out _ hbb
  have X := Rd.lit w6 #[.int .i64 2, .int .i64 5, .int .i64 3600, .bool false, .slice A7 0 c7, .slice B7 0 d7] 30
  have R := (r5.below hb).below hbb
  replace D := (D.below hb).below hbb
  replace B := (B.trans (hb.mono B.size)).trans (hbb.mono (Nat.le_trans B.size hb.size))
  clear r5 hL7 hown hb hbb
  replace h7 := Lib.hid h7
  replace X := Lib.hid X
  replace R := Lib.hid R
  replace D := Lib.hid D
  replace B := Lib.hid B
  go_wp2_with fail
  generalize World.alloc w6 _ = w7 at *
  obtain ⟨⟨M7, hm7, _⟩, _⟩ := id D.out
  replace hm7 := Lib.hid hm7
  have I := dtick_any w7 _ _ _ 60 D.out (one_ok v6 rfl (by omega) (by omega)) (one_small _ _) (by omega) (by omega)
  unfold DTickPost at I
  rw [aw_t2, aw_l2] at I
  replace I := Lib.hid I
  clear D
  (with_reducible refine (I.out).mono ?_)
  rintro e w8 ⟨u8, rfl, o8, D, hg⟩
  clear I
  have B8 := below_via B.out hg (Nat.le_refl _) B.out.size
  clear B
  obtain ⟨A8, c8, hv8, _⟩ := own_rd o8
  rw [show ([] : List Int).length = 0 from rfl] at hv8
  subst hv8
  clear o8
  replace X := X.out.keptMap hm7.out hg
  replace R := R.out.keptMap hm7.out hg
  replace h7 := h7.out.keptMap hm7.out hg
  clear hm7 hg
  have I := dget_any w8 _ _ _ 2 (by decide) D (fun i h e => nomatch e)
  rw [show getO (fun _ => none) 2 = none from rfl] at I
  unfold GetPost at I
  rw [show (none : Option Hd).isSome = false from rfl] at I
  replace I := Lib.hid I
  clear D
  go_wp2_with fail
  (with_reducible refine (I.out).mono ?_)
  rintro e w9 ⟨v9, rfl, hown, hb⟩
  clear I
  obtain ⟨A9, c9, C9, d9, hv9, _⟩ := hown.open
  have hv8 : v9 = laV 0 0 0 false A9 0 c9 C9 0 d9 := hv9
  clear hv9 hown
  subst hv8
  have hbb := below_new' w9 (.cells #[.int .i64 0, .int .i64 0, .int .i64 0, .bool false, .slice A9 0 c9, .slice C9 0 d9] 30)
  replace X := (X.below hb).below hbb
  replace R := (R.below hb).below hbb
  replace h7 := (h7.below hb).below hbb
  have B9 := (B8.trans (hb.mono B8.size)).trans (hbb.mono (Nat.le_trans B8.size hb.size))
  clear B8 hb hbb
  have a0 := X.at 0 rfl
  have a1 := X.at 1 rfl
  have a2 := X.at 2 rfl
  have a3 := X.at 3 rfl
  have a4 := X.at 4 rfl
  have a5 := X.at 5 rfl
  have a6 := R.at 0 rfl
  have h7q : LaAt _ (laV 2 5 3600 false A7 0 c7 B7 0 d7) (bare 2 5 3600 false) := h7
  have EQ := equal_any _ _ _ (bare 2 5 3600 false) (bare 2 5 3600 false) h7q (bare_at _ 2 5 3600 false)
  rw [equB_refl'] at EQ
  replace EQ := Lib.hid EQ
  replace B9 := Lib.hid B9
  clear X R h7 h7q
  go_wp2_with fail
  (with_reducible refine (EQ.out).mono ?_)
  rintro e w10 ⟨rfl, hb⟩
  go_wp2_with fail
  go_ret
  exact ⟨rfl, B9.out.trans (hb.mono B9.out.size)⟩

end Go.Proofs.Ytkmpmgojgidcgaa

namespace Go.Proofs.Ytkmpmgojgidcgaa
set_option linter.unusedVariables false
open Go.RowKit

theorem fewB_t {x : La} (h : fewB x = true) : x.adj.length ≤ 300 ∧ x.pre.length ≤ 100 := by simpa [fewB] using h

theorem cmpI_neg (a b : Int) : cmpI b a = - cmpI a b := by unfold cmpI; split <;> split <;> (try split) <;> omega
theorem cmpI_bd (a b : Int) : cmpI a b = -1 ∧ a < b ∨ cmpI a b = 0 ∧ a = b ∨ cmpI a b = 1 ∧ b < a := by unfold cmpI; split <;> (try split) <;> omega
theorem cmpB_neg : ∀ (a b : List UInt8), Lib.compareBytes b a = - Lib.compareBytes a b
  | [], [] => rfl
  | [], _ :: _ => rfl
  | _ :: _, [] => rfl
  | x :: a, y :: b => by
    unfold Lib.compareBytes
    by_cases h1 : x < y
    · have h2 : ¬ y < x := fun h => absurd (UInt8.lt_trans h1 h) (UInt8.lt_irrefl _)
      simp [h1, h2]
    · by_cases h2 : y < x
      · simp [h1, h2]
      · simp [h1, h2, cmpB_neg a b]
theorem cmpB_trans : ∀ (a b c : List UInt8), 0 ≤ Lib.compareBytes a b → 0 ≤ Lib.compareBytes b c → 0 ≤ Lib.compareBytes a c
  | [], [], [] => by simp [Lib.compareBytes]
  | [], [], _ :: _ => by simp [Lib.compareBytes]
  | [], _ :: _, _ => by simp [Lib.compareBytes]
  | _ :: _, _, [] => by simp [Lib.compareBytes]
  | _ :: _, [], _ :: _ => by simp [Lib.compareBytes]
  | x :: a, y :: b, z :: c => by
    have ih := cmpB_trans a b c
    intro h1 h2
    unfold Lib.compareBytes at h1 h2 ⊢
    by_cases e1 : x < y
    · simp [e1] at h1
    · by_cases e2 : y < z
      · simp [e2] at h2
      · have e3 : ¬ x < z := fun h => by
          rw [UInt8.lt_iff_toNat_lt] at *; omega
        by_cases e4 : z < x
        · simp [e3, e4]
        · have e5 : ¬ y < x := fun h => by rw [UInt8.lt_iff_toNat_lt] at *; omega
          have e6 : ¬ z < y := fun h => by rw [UInt8.lt_iff_toNat_lt] at *; omega
          simp only [e1, e2, e3, e4, e5, e6, if_false] at h1 h2 ⊢
          exact ih h1 h2
theorem newI_v {x y : La} (hx : LaValid x) (hy : LaValid y) : newI x y = if x.s = y.s then (if (x.a == 3600) = (y.a == 3600) then Lib.compareBytes (laEnc (age0 x)) (laEnc (age0 y)) else if (x.a == 3600) = true then 1 else -1) else cmpI x.s y.s := by
  unfold newI
  rw [vB_t hx, vB_t hy]
  exact if_pos ⟨rfl, rfl⟩
/-- The number, whether it is a purge, the bytes. -/
def KeyGe (x y : La) : Prop := y.s < x.s ∨ x.s = y.s ∧ (x.a = 3600 ∧ y.a ≠ 3600 ∨ ((x.a == 3600) = (y.a == 3600)) ∧ 0 ≤ Lib.compareBytes (laEnc (age0 x)) (laEnc (age0 y)))
theorem newI_neg {x y : La} (hx : LaValid x) (hy : LaValid y) : newI y x = - newI x y := by
  rw [newI_v hx hy, newI_v hy hx]
  by_cases h : x.s = y.s
  · rw [if_pos h, if_pos h.symm]
    by_cases h2 : (x.a == 3600) = (y.a == 3600)
    · rw [if_pos h2, if_pos h2.symm]; exact cmpB_neg _ _
    · rw [if_neg h2, if_neg (fun e => h2 e.symm)]
      rcases e1 : (x.a == 3600) with _ | _ <;> rcases e2 : (y.a == 3600) with _ | _
      · rw [e1, e2] at h2; exact absurd rfl h2
      · simp
      · simp
      · rw [e1, e2] at h2; exact absurd rfl h2
  · rw [if_neg h, if_neg (fun e => h e.symm)]; exact cmpI_neg _ _
theorem newI_bd {x y : La} (hx : LaValid x) (hy : LaValid y) : -1 ≤ newI x y ∧ newI x y ≤ 1 := by
  unfold newI
  rw [vB_t hx, vB_t hy, if_pos ⟨rfl, rfl⟩]
  have h1 := cmp_bd (laEnc (age0 x)) (laEnc (age0 y))
  have h2 := cmpI_bd x.s y.s
  split
  · split
    · omega
    · split <;> omega
  · omega
theorem newI_ge {x y : La} (hx : LaValid x) (hy : LaValid y) : 0 ≤ newI x y ↔ KeyGe x y := by
  unfold newI KeyGe
  rw [vB_t hx, vB_t hy, if_pos ⟨rfl, rfl⟩]
  by_cases h : x.s = y.s
  · rw [if_pos h]
    by_cases h2 : (x.a == 3600) = (y.a == 3600)
    · rw [if_pos h2]
      constructor
      · intro h3; exact .inr ⟨h, .inr ⟨h2, h3⟩⟩
      · rintro (h3 | ⟨_, ⟨h3, h4⟩ | ⟨_, h3⟩⟩)
        · omega
        · rw [h3] at h2; simp at h2; exact absurd h2 h4
        · exact h3
    · rw [if_neg h2]
      rcases e1 : (x.a == 3600) with _ | _ <;> rcases e2 : (y.a == 3600) with _ | _
      · rw [e1, e2] at h2; exact absurd rfl h2
      · simp only [beq_eq_false_iff_ne, beq_iff_eq] at e1 e2
        constructor
        · intro h3; simp at h3
        · rintro (h3 | ⟨_, ⟨h3, h4⟩ | ⟨h3, _⟩⟩)
          · omega
          · exact absurd h3 e1
          · cases h3
      · simp only [beq_eq_false_iff_ne, beq_iff_eq] at e1 e2
        constructor
        · intro _; exact .inr ⟨h, .inl ⟨e1, e2⟩⟩
        · intro _; simp
      · rw [e1, e2] at h2; exact absurd rfl h2
  · rw [if_neg h]
    have := cmpI_bd x.s y.s
    constructor
    · intro h3; left; omega
    · rintro (h3 | ⟨h3, _⟩)
      · omega
      · exact absurd h3 h
theorem KeyGe.trans {x y z : La} (h1 : KeyGe x y) (h2 : KeyGe y z) : KeyGe x z := by
  unfold KeyGe at *
  rcases h1 with h1 | ⟨e1, h1⟩
  · rcases h2 with h2 | ⟨e2, _⟩
    · left; omega
    · left; omega
  · rcases h2 with h2 | ⟨e2, h2⟩
    · left; omega
    · right
      refine ⟨by omega, ?_⟩
      rcases h1 with ⟨a1, b1⟩ | ⟨a1, b1⟩
      · rcases h2 with ⟨a2, b2⟩ | ⟨a2, b2⟩
        · exact absurd a2 b1
        · left
          refine ⟨a1, fun h => b1 ?_⟩
          rw [h] at a2; simpa using a2
      · rcases h2 with ⟨a2, b2⟩ | ⟨a2, b2⟩
        · left
          refine ⟨?_, b2⟩
          rw [a2] at a1; simpa using a1
        · right
          exact ⟨a1.trans a2, cmpB_trans _ _ _ b1 b2⟩
/-- 0 exactly for advertisements of the same contents. -/
theorem newI_zero {x y : La} (hx : LaOk x) (hy : LaOk y) : (newI x y == 0) = sameB x y := by
  have hz : newI x y = 0 ↔ sameB x y = true := by
    unfold newI
    rw [vB_t hx.1, vB_t hy.1, if_pos ⟨rfl, rfl⟩]
    have hinj : laEnc (age0 x) = laEnc (age0 y) ↔ age0 x = age0 y := ⟨fun h => laEnc_inj ⟨age0_valid hx.1, hx.2⟩ ⟨age0_valid hy.1, hy.2⟩ h, fun h => by rw [h]⟩
    have hs := cmpI_bd x.s y.s
    simp only [sameB, conB, Bool.and_eq_true, beq_iff_eq, decide_eq_true_iff]
    by_cases h : x.s = y.s
    · rw [if_pos h]
      by_cases h2 : (x.a == 3600) = (y.a == 3600)
      · rw [if_pos h2, cmp_eq0, hinj]
        obtain ⟨o, s, a, ov, adj, pre⟩ := x
        obtain ⟨o', s', a', ov', adj', pre'⟩ := y
        simp only [age0, La.mk.injEq, true_and]
        constructor
        · rintro ⟨rfl, rfl, rfl, rfl, rfl⟩; exact ⟨rfl, rfl, h2, rfl, rfl, rfl⟩
        · rintro ⟨rfl, rfl, _, rfl, rfl, rfl⟩; exact ⟨rfl, rfl, rfl, rfl, rfl⟩
      · rw [if_neg h2]
        constructor
        · intro h3; split at h3 <;> omega
        · rintro ⟨_, _, h3, _⟩; exact absurd h3 h2
    · rw [if_neg h]
      constructor
      · intro h3; omega
      · rintro ⟨_, h3, _⟩; exact absurd h3 h
  rw [Bool.eq_iff_iff, beq_iff_eq]; exact hz
/-- Transitivity, as the law says it. -/
theorem newI_tr {x y z : La} (hx : LaValid x) (hy : LaValid y) (hz : LaValid z) (h1 : 0 ≤ newI x y) (h2 : 0 ≤ newI y z) : 0 ≤ newI x z ∧ (newI x y + newI y z = 0 ↔ newI x z = 0) := by
  have h3 := (newI_ge hx hz).2 (((newI_ge hx hy).1 h1).trans ((newI_ge hy hz).1 h2))
  refine ⟨h3, fun h => ?_, fun h => ?_⟩
  · have e1 : newI y x = 0 := by rw [newI_neg hx hy]; omega
    have e2 : newI z y = 0 := by rw [newI_neg hy hz]; omega
    have h4 := (newI_ge hz hx).2 (((newI_ge hz hy).1 (by omega)).trans ((newI_ge hy hx).1 (by omega)))
    rw [newI_neg hx hz] at h4
    omega
  · have e3 : newI z x = 0 := by rw [newI_neg hx hz]; omega
    have a1 := (newI_ge hz hy).2 (((newI_ge hz hx).1 (by omega)).trans ((newI_ge hx hy).1 h1))
    have a2 := (newI_ge hy hx).2 (((newI_ge hy hz).1 h2).trans ((newI_ge hz hx).1 (by omega)))
    rw [newI_neg hy hz] at a1
    rw [newI_neg hx hy] at a2
    omega
theorem newI_tr2 {x y z : La} (hx : LaValid x) (hy : LaValid y) (hz : LaValid z) (h1 : newI x y ≤ 0) (h2 : newI y z ≤ 0) (h : newI x y < 0 ∨ newI y z < 0) : newI x z < 0 := by
  have e1 := newI_neg hx hy
  have e2 := newI_neg hy hz
  have e3 := newI_neg hx hz
  obtain ⟨h3, h4⟩ := newI_tr hz hy hx (by omega) (by omega)
  have : ¬ newI z x = 0 := fun e => by have := h4.2 e; omega
  omega

end Go.Proofs.Ytkmpmgojgidcgaa

namespace Go.Proofs.Ytkmpmgojgidcgaa
set_option linter.unusedVariables false
open Go.RowKit

noncomputable def insts (l : List La) : Db := l.foldl instN (fun _ => none)
/-- What holds behind the installation of l. -/
def NwAt (l : List La) (N : Db) (i : Nat) : Prop := match N i with
  | none => ∀ a ∈ l, a.o.toNat ≠ i
  | some h => h.x ∈ l ∧ h.x.o.toNat = i ∧ h.l = 60 ∧ ∀ a ∈ l, a.o.toNat = i → newI a h.x ≤ 0
theorem insts_snoc (l : List La) (a : La) : insts (l ++ [a]) = instN (insts l) a := by unfold insts; rw [List.foldl_append]; rfl

theorem newI_self {x : La} (h : LaValid x) : newI x x = 0 := by have := newI_neg h h; omega
theorem nw_snoc {l : List La} {N : Db} (hl : ∀ a ∈ l, LaValid a) (h : ∀ i, NwAt l N i) {a : La} (ha : LaValid a) (i : Nat) : NwAt (l ++ [a]) (instN N a) i := by
  have hi := h i
  by_cases hia : i = a.o.toNat
  · subst hia
    unfold NwAt at hi
    cases hN : N a.o.toNat with
    | none =>
      rw [hN] at hi
      have hr : instR N a = 1 := by unfold instR; rw [vB_t ha, if_pos rfl, hN]
      have he : instN N a a.o.toNat = some ⟨a, 60⟩ := by unfold instN; rw [hr, vB_t ha, if_pos ⟨rfl, rfl⟩, if_pos rfl]
      unfold NwAt
      rw [he]
      refine ⟨by simp, rfl, rfl, fun b hb hbo => ?_⟩
      rcases List.mem_append.1 hb with hb | hb
      · exact absurd hbo (hi b hb)
      · rw [List.mem_singleton.1 hb, newI_self ha]; omega
    | some x =>
      rw [hN] at hi
      obtain ⟨hm, ho, hlf, hle⟩ := hi
      have hx := hl _ hm
      have hbd := newI_bd ha hx
      by_cases h1 : newI a x.x = 1
      · have hr : instR N a = 1 := by unfold instR; rw [vB_t ha, if_pos rfl, hN]; simp only [h1]; simp
        have he : instN N a a.o.toNat = some ⟨a, 60⟩ := by unfold instN; rw [hr, vB_t ha, if_pos ⟨rfl, rfl⟩, if_pos rfl]
        unfold NwAt
        rw [he]
        refine ⟨by simp, rfl, rfl, fun b hb hbo => ?_⟩
        rcases List.mem_append.1 hb with hb | hb
        · have hbv := hl b hb
          have h2 := hle b hb hbo
          have h3 := newI_neg hbv hx
          have h4 := newI_neg ha hbv
          have h5 := (newI_tr ha hx hbv (by omega) (by omega)).1
          show newI b a ≤ 0
          omega
        · rw [List.mem_singleton.1 hb, newI_self ha]; omega
      · have hr : instR N a ≠ 1 := by
          unfold instR; rw [vB_t ha, if_pos rfl, hN]
          have : newI a x.x = 0 ∨ newI a x.x = -1 := by omega
          rcases this with e | e <;> simp [e]
        have he : instN N a = N := by unfold instN; rw [if_neg (fun e => hr e.2)]
        unfold NwAt
        rw [he, hN]
        refine ⟨by simp [hm], ho, hlf, fun b hb hbo => ?_⟩
        rcases List.mem_append.1 hb with hb | hb
        · exact hle b hb hbo
        · rw [List.mem_singleton.1 hb]; omega
  · have he : instN N a i = N i := by
      unfold instN
      split
      · exact if_neg hia
      · rfl
    unfold NwAt at hi ⊢
    rw [he]
    cases hN : N i with
    | none =>
      rw [hN] at hi
      intro b hb
      rcases List.mem_append.1 hb with hb | hb
      · exact hi b hb
      · rw [List.mem_singleton.1 hb]; exact fun e => hia e.symm
    | some x =>
      rw [hN] at hi
      obtain ⟨hm, ho, hlf, hle⟩ := hi
      refine ⟨by simp [hm], ho, hlf, fun b hb hbo => ?_⟩
      rcases List.mem_append.1 hb with hb | hb
      · exact hle b hb hbo
      · rw [List.mem_singleton.1 hb] at hbo; exact absurd hbo.symm hia

theorem nw_take {l : List La} (hl : ∀ a ∈ l, LaValid a) : ∀ k, k ≤ l.length → ∀ i, NwAt (l.take k) (insts (l.take k)) i
  | 0, _ => fun i => by
    rw [List.take_zero]
    show NwAt [] (fun _ => none) i
    unfold NwAt
    simp
  | k + 1, hk => fun i => by
    rw [List.take_succ_eq_append_getElem (by omega), insts_snoc]
    exact nw_snoc (fun a ha => hl a (List.mem_of_mem_take ha)) (nw_take hl k (by omega)) (hl _ (List.getElem_mem _)) i
theorem nw_all {l : List La} (hl : ∀ a ∈ l, LaValid a) (i : Nat) : NwAt l (insts l) i := by
  have h := nw_take hl l.length (Nat.le_refl _) i
  rwa [List.take_length] at h
/-- What is held is one of those that were installed. -/
theorem insts_mem {l : List La} (hl : ∀ a ∈ l, LaValid a) {i : Nat} {h : Hd} (e : insts l i = some h) : h.x ∈ l ∧ h.x.o.toNat = i ∧ h.l = 60 ∧ ∀ a ∈ l, a.o.toNat = i → newI a h.x ≤ 0 := by
  have := nw_all hl i
  unfold NwAt at this
  rw [e] at this
  exact this
theorem insts_ok {l : List La} (hl : ∀ a ∈ l, LaValid a) : DbOk (insts l) := fun i h e => by
  obtain ⟨h1, h2, h3, _⟩ := insts_mem hl e
  have hv := hl _ h1
  have ho := hv.1
  exact ⟨hv, by omega, by omega, by omega⟩
theorem insts_small {l : List La} (hl : ∀ a ∈ l, LaValid a) : ∀ i, 64 ≤ i → insts l i = none := fun i hi => by
  cases e : insts l i with
  | none => rfl
  | some h =>
    obtain ⟨h1, h2, _⟩ := insts_mem hl e
    have := (hl _ h1).1
    omega
/-- What is held for the origin of one of them. -/
theorem insts_get {l : List La} (hl : ∀ a ∈ l, LaValid a) {a : La} (ha : a ∈ l) : ∃ h, getO (insts l) a.o = some h ∧ h.x ∈ l ∧ newI a h.x ≤ 0 := by
  have ho := (hl a ha).1
  have e1 : getO (insts l) a.o = insts l a.o.toNat := by unfold getO; rw [if_pos ⟨ho.1, by omega⟩]
  cases e : insts l a.o.toNat with
  | none =>
    have := nw_all hl a.o.toNat
    unfold NwAt at this
    rw [e] at this
    exact absurd rfl (this a ha)
  | some h =>
    obtain ⟨h1, h2, _, h4⟩ := insts_mem hl e
    exact ⟨h, by rw [e1, e], h1, h4 a ha rfl⟩
theorem sameB_refl (x : La) : sameB x x = true := by simp [sameB, conB]

end Go.Proofs.Ytkmpmgojgidcgaa

namespace Go.Proofs.Ytkmpmgojgidcgaa
set_option linter.unusedVariables false
open Go.RowKit Go.Sort Go.ChangeShapes Go.WideShapes Go.ChangeAt

/-- An advertisement as it lies in memory. -/
structure Lx where
  y : La
  A : Option Addr
  c : Nat
  B : Option Addr
  d : Nat
def lxL (s : Lx) : List Value := [.int .i64 s.y.o, .int .i64 s.y.s, .int .i64 s.y.a, .bool s.y.ov, .slice s.A s.y.adj.length s.c, .slice s.B s.y.pre.length s.d]
def lxV : List Lx → List Value
  | [] => []
  | s :: l => lxL s ++ lxV l
def LxOk (w : World) (s : Lx) : Prop := LaAt w (laV s.y.o s.y.s s.y.a s.y.ov s.A s.y.adj.length s.c s.B s.y.pre.length s.d) s.y
theorem lxV_len (l : List Lx) : (lxV l).length = l.length * 6 := by
  induction l with
  | nil => rfl
  | cons r l ih => simp only [lxV, lxL, List.length_append, List.length_cons, List.length_nil, ih]; omega
theorem lxV_get (l : List Lx) : ∀ (k : Nat) (hk : k < l.length) (j : Nat) (hj : j < 6), (lxV l)[6 * k + j]? = (lxL l[k])[j]? := by
  induction l with
  | nil => intro k hk; simp at hk
  | cons r l ih =>
    intro k hk j hj
    have h8 : (lxL r).length = 6 := rfl
    cases k with
    | zero => simp only [lxV, List.getElem_cons_zero]; rw [List.getElem?_append_left (by omega)]; simp
    | succ k =>
      simp only [lxV, List.getElem_cons_succ]
      rw [List.getElem?_append_right (by omega), h8, show 6 * (k + 1) + j - 6 = 6 * k + j by omega]
      exact ih k (by simpa using hk) j hj
theorem rd_lx {w : World} {A : Option Addr} {l : List Lx} (h : Rd w A (lxV l)) (hn : 0 < l.length) :
    ∃ b off, A = some ⟨b, off, none⟩ ∧ ∀ k (hk : k < l.length) j (u : Value), j < 6 → (lxL l[k])[j]? = some u → w.cell? ⟨b, off + k * 6 + j, none⟩ = some u := by
  obtain ⟨b, off, e, hc⟩ := rd_at h (by rw [lxV_len]; omega)
  refine ⟨b, off, e, fun k hk j u hj hu => ?_⟩
  rw [Nat.add_assoc]
  exact hc _ _ (by rw [Nat.mul_comm k 6, lxV_get l k hk j hj]; exact hu)
theorem rep_las {w : World} {xs : List La} : ∀ {vs : List Value}, Rep (IsLa w) 6 xs vs → ∃ l : List Lx, vs = lxV l ∧ l.length = xs.length ∧ ∀ s ∈ l, LxOk w s := by
  induction xs with
  | nil => intro vs h; exact ⟨[], h, rfl, by simp⟩
  | cons b t ih =>
    rintro vs ⟨cs', q, rfl, ⟨hla, hl6⟩, _, hr⟩
    obtain ⟨l, rfl, hl, hok⟩ := ih hr
    obtain ⟨A, cc, B, d, hv, hat⟩ := hla.opened
    have hcs : cs' = [.int .i64 b.o, .int .i64 b.s, .int .i64 b.a, .bool b.ov, .slice A b.adj.length cc, .slice B b.pre.length d] := by
      simp only [laV, Value.agg.injEq] at hv
      have := congrArg Array.toList hv
      simpa using this
    subst hcs
    refine ⟨⟨b, A, cc, B, d⟩ :: l, rfl, by simp [hl], fun s hs => ?_⟩
    rcases List.mem_cons.1 hs with rfl | hs
    · exact hat
    · exact hok s hs

section
variable {H : Type} {enc : TypeId × Value → H} {w : World} {base : Nat} {spare : Nat → Bool} {held : Bool} {r : Reach} {b0 : Nat} {v : Value} {d : DataW H} {ps : List MemPlace}
set_option maxRecDepth 100000 in
theorem arg_las (hv : Value.okWide Try.prog w r b0 22 v) (h : DataW.Trod enc Try.prog w base spare held 22 v d ps) :
    ∃ (A : Option Addr) (n c : Nat) (l : List Lx), v = .slice A n c ∧ Rd w A (lxV l) ∧ l.length = n ∧ n ≤ maxLen ∧ ∀ s ∈ l, LxOk w s := by
  obtain ⟨A, n, c, x, rfl, A', c', vs, h1, h2, h3, h4, h5⟩ := arg_slice Try.underlying22 (opens_slice Try.underlying22 (by kernel_rfl) (opens_la w)) hv h
  simp only [List.cons.injEq, Value.slice.injEq, and_true] at h1
  obtain ⟨rfl, rfl, rfl⟩ := h1
  rw [show Try.prog.cellsOf 30 = 6 from by kernel_rfl] at h4
  obtain ⟨l, rfl, hl, hok⟩ := rep_las h4
  exact ⟨A, _, c, l, rfl, h5, hl, Nat.le_trans h2 h3, hok⟩
end

end Go.Proofs.Ytkmpmgojgidcgaa

namespace Go.Proofs.Ytkmpmgojgidcgaa
set_option linter.unusedVariables false
open Go.RowKit Go.Maps Go.Sort

/-- The cells of an element. -/
theorem lx_cells {w : World} {b off : Nat} {l : List Lx} (h : Rd w (some ⟨b, off, none⟩) (lxV l)) (k : Nat) (hk : k < l.length) (s : Lx) (hs : l[k] = s) :
    w.cell? ⟨b, off + k * 6, none⟩ = some (.int .i64 s.y.o) ∧ w.cell? ⟨b, off + k * 6 + 1, none⟩ = some (.int .i64 s.y.s) ∧ w.cell? ⟨b, off + k * 6 + 2, none⟩ = some (.int .i64 s.y.a) ∧
    w.cell? ⟨b, off + k * 6 + 3, none⟩ = some (.bool s.y.ov) ∧ w.cell? ⟨b, off + k * 6 + 4, none⟩ = some (.slice s.A s.y.adj.length s.c) ∧ w.cell? ⟨b, off + k * 6 + 5, none⟩ = some (.slice s.B s.y.pre.length s.d) := by
  subst hs
  obtain ⟨b', off', e, hc⟩ := rd_lx h (by omega)
  injection e with e
  injection e with e1 e2 e3
  subst e1 e2
  have x0 := hc k hk 0 _ (by omega) rfl
  have x1 := hc k hk 1 _ (by omega) rfl
  have x2 := hc k hk 2 _ (by omega) rfl
  have x3 := hc k hk 3 _ (by omega) rfl
  have x4 := hc k hk 4 _ (by omega) rfl
  have x5 := hc k hk 5 _ (by omega) rfl
  simp only [Nat.add_zero] at x0
  exact ⟨x0, x1, x2, x3, x4, x5⟩
theorem lx_form {w : World} {A : Option Addr} {l : List Lx} (h : Rd w A (lxV l)) (hn : 0 < l.length) : ∃ b off, A = some ⟨b, off, none⟩ := by
  obtain ⟨b, off, e, _⟩ := rd_lx h hn
  exact ⟨b, off, e⟩
theorem St.via {W w w' : World} {bs : List (Nat × List Value)} {rs : List (Option Addr × List Value)} {g : Nat} (S : St W w bs rs) (hg : w.grownBy w' (some g)) (hB : W.heap.size ≤ g) (hd : ∀ x ∈ bs, x.1 ≠ g ∧ 0 < x.2.length) : St W w' bs rs :=
  ⟨below_via S.b hg hB S.b.size, fun i x hx => (S.bx i x hx).kept hg (fun e => by injection e with e; exact (hd x (List.mem_of_getElem? hx)).1 e) (hd x (List.mem_of_getElem? hx)).2, S.rd⟩
/-- The advertisements of a list. -/
abbrev laL (l : List Lx) : List La := l.map (·.y)
theorem laL_get (l : List Lx) (k : Nat) (hk : k < l.length) : (laL l)[k]'(by simpa [laL] using hk) = l[k].y := by simp [laL]
theorem insts_next (l : List Lx) (k : Nat) (hk : k < l.length) : insts ((laL l).take (k + 1)) = instN (insts ((laL l).take k)) l[k].y := by
  rw [List.take_succ_eq_append_getElem (by simpa [laL] using hk), insts_snoc, laL_get l k hk]
def AllV (l : List La) : Prop := ∀ a ∈ l, LaValid a ∧ fewB a = true
theorem allV_next {l : List Lx} {k : Nat} (hk : k < l.length) (h : AllV ((laL l).take k)) (h1 : LaValid l[k].y) (h2 : fewB l[k].y = true) : AllV ((laL l).take (k + 1)) := by
  rw [List.take_succ_eq_append_getElem (by simpa [laL] using hk), laL_get l k hk]
  intro a ha
  rcases List.mem_append.1 ha with ha | ha
  · exact h a ha
  · rw [List.mem_singleton.1 ha]; exact ⟨h1, h2⟩
theorem fnd_next (l : List Lx) (x : La) (k : Nat) (hk : k < l.length) : ((laL l).take (k + 1)).any (fun a => sameB a x) = (((laL l).take k).any (fun a => sameB a x) || sameB l[k].y x) := by
  rw [List.take_succ_eq_append_getElem (by simpa [laL] using hk), laL_get l k hk, List.any_append]
  simp

set_option maxRecDepth 100000 in
set_option maxHeartbeats 12800000 in
theorem newest_law (w : World) (A : Option Addr) (n c : Nat) (l : List Lx) (hA : Rd w A (lxV l)) (hn : l.length = n) (hm : n ≤ maxLen) (hok : ∀ s ∈ l, LxOk w s) :
    Calls Try.prog 3 #[.slice A n c] w fun e w' => e = .returned (.bool true) ∧ Below w.heap.size w w' := by
  replace hok := Lib.hid hok
  replace hn := Lib.hid hn
  unfold maxLen at hm
  have S := (St.start w).read hA
  clear hA
  go_enter Try.func3, Try.ntmps3
  go_wp2_with fail
  (with_reducible refine (awake_any _).mono ?_)
  rintro e w1 ⟨rfl, hb⟩
  replace S := S.call hb
  clear hb
  by_cases h12 : n ≤ 12
  rotate_left
  · go_wp2_with fail
    go_ret
    exact ⟨rfl, S.b⟩
  have hs1 := S.b.size
  go_wp2_with fail
  (with_reducible refine (dnew_any _).mono ?_)
  rintro e w2 ⟨rfl, dat, hb⟩
  replace S := S.call hb
  clear hb
  generalize hgb : w1.heap.size = b at *
  clear hgb
  have hv0 : Hid (AllV ((laL l).take 0)) := fun a ha => by simp at ha
  replace dat : Hid (DbAt w2 (b + 1) b (insts ((laL l).take 0))) := Lib.hid dat
  generalize b + 1 = g at *
  go_wp2_with fail
  go_loopw [4] (fun v4 wr => ∃ (k : Nat), v4 = .int .i64 k ∧ k ≤ n ∧ Hid (AllV ((laL l).take k)) ∧ Hid (DbAt wr g b (insts ((laL l).take k))) ∧ St w wr [] [(A, lxV l)]) (fun v4 _ => n - (intOf v4).toNat)
  case atStart => exact ⟨0, rfl, by omega, hv0, dat, S⟩
  case round =>
    clear S hv0 dat
    obtain ⟨k, rfl, hk, hv, dat, S⟩ := hrel
    by_cases hkn : k < n
    · have hkl : k < l.length := by rw [hn.out]; exact hkn
      obtain ⟨ba, off, rfl⟩ := lx_form (S.r 0 rfl) (by omega)
      have hso := hok.out l[k] (List.getElem_mem hkl)
      have hnx := insts_next l k hkl
      have hvn := allV_next hkl hv.out
      obtain ⟨s, hs⟩ : ∃ s, l[k] = s := ⟨_, rfl⟩
      rw [hs] at hso hnx hvn
      have hcell := fun W (h : Rd W (some ⟨ba, off, none⟩) (lxV l)) => lx_cells h k hkl s hs
      clear hs hkl
      obtain ⟨y, A2, c2, B2, d2⟩ := s
      unfold LxOk at hso
      simp only at hso hnx hvn hcell
      replace hcell := Lib.hid hcell
      replace hnx := Lib.hid hnx
      replace hvn := Lib.hid hvn
      obtain ⟨fb, hfb⟩ : ∃ z, fewB y = z := ⟨_, rfl⟩
      obtain ⟨vb, hvb⟩ : ∃ z, vB y = z := ⟨_, rfl⟩
      have F := fun W hb => few_any W _ y (hso.below hb)
      have V := fun W hb => rvalid_at W _ y (hso.below hb)
      have I := fun W (hb : Below w.heap.size w W) (dat : DbAt W g b (insts ((laL l).take k))) => dinstall_any W g b _ _ y dat (hso.below hb)
      rw [hfb] at F
      rw [hvb] at V
      replace F := Lib.hid F
      replace V := Lib.hid V
      replace I := Lib.hid I
      replace hfb := Lib.hid hfb
      replace hvb := Lib.hid hvb
      clear hso
      obtain ⟨x0, x1, x2, x3, x4, x5⟩ := hcell.out _ (S.r 0 rfl)
      go_wp2_with fail
      (with_reducible refine (F.out _ S.b).mono ?_)
      rintro e w3 ⟨rfl, hb⟩
      clear x0 x1 x2 x3 x4 x5 F
      replace S := S.call hb
      replace dat := Lib.hid (dat.out.below hb)
      clear hb
      cases fb with
      | false =>
        go_wp2_with fail
        go_ret
        exact ⟨rfl, S.b⟩
      | true =>
      obtain ⟨x0, x1, x2, x3, x4, x5⟩ := hcell.out _ (S.r 0 rfl)
      go_wp2_with fail
      (with_reducible refine (V.out _ S.b).mono ?_)
      rintro e w4 ⟨rfl, hb⟩
      clear x0 x1 x2 x3 x4 x5 V
      replace S := S.call hb
      replace dat := Lib.hid (dat.out.below hb)
      clear hb
      cases vb with
      | false =>
        go_wp2_with fail
        go_ret
        exact ⟨rfl, S.b⟩
      | true =>
      obtain ⟨x0, x1, x2, x3, x4, x5⟩ := hcell.out _ (S.r 0 rfl)
      go_wp2_with fail
      (with_reducible refine (I.out _ S.b dat.out).mono ?_)
      rintro e w5 ⟨rfl, dat2, hg⟩
      clear x0 x1 x2 x3 x4 x5 I hcell dat
      replace S := S.via hg (by omega) (by simp)
      clear hg
      rw [← hnx.out] at dat2
      replace dat2 := Lib.hid dat2
      have hv2 := Lib.hid (hvn.out (vB_iff.1 hvb.out) hfb.out)
      clear hvn hnx hvb hfb hv
      go_wp2_with fail
      go_round
      case rel => exact ⟨k + 1, by go_num, by omega, hv2, dat2, S⟩
      case measure => simp [intOf]; omega
    · obtain rfl : k = n := by omega
      have hal : AllV (laL l) := by have := hv.out; rwa [List.take_of_length_le (by simp [laL, hn.out])] at this
      rw [List.take_of_length_le (by simp [laL, hn.out])] at dat
      clear hv hkn hk
      have hlv : ∀ a ∈ laL l, LaValid a := fun a ha => (hal a ha).1
      have hdok := insts_ok hlv
      replace hdok := Lib.hid hdok
      replace hlv := Lib.hid hlv
      clear hal
      go_wp2_with fail
      go_loopw [5] (fun v5 wr => ∃ (k2 : Nat), v5 = .int .i64 k2 ∧ k2 ≤ k ∧ Hid (DbAt wr g b (insts (laL l))) ∧ St w wr [] [(A, lxV l)]) (fun v5 _ => k - (intOf v5).toNat)
      case atStart => exact ⟨0, rfl, by omega, dat, S⟩
      case round =>
        clear S dat
        obtain ⟨k2, rfl, hk, dat, S⟩ := hrel
        by_cases hkn : k2 < k
        · have hkl : k2 < l.length := by rw [hn.out]; exact hkn
          obtain ⟨ba, off, rfl⟩ := lx_form (S.r 0 rfl) (by omega)
          have hso := hok.out l[k2] (List.getElem_mem hkl)
          have hmem : l[k2].y ∈ laL l := List.mem_map.2 ⟨_, List.getElem_mem hkl, rfl⟩
          obtain ⟨s, hs⟩ : ∃ s, l[k2] = s := ⟨_, rfl⟩
          rw [hs] at hso hmem
          have hcell := fun W (h : Rd W (some ⟨ba, off, none⟩) (lxV l)) => lx_cells h k2 hkl s hs
          clear hs hkl
          obtain ⟨y, A2, c2, B2, d2⟩ := s
          unfold LxOk at hso
          simp only at hso hmem hcell
          replace hcell := Lib.hid hcell
          obtain ⟨hd, hgo, hxm, hnw⟩ := insts_get hlv.out hmem
          have hyo := (hlv.out y hmem).1
          have G := fun W (dat : DbAt W g b (insts (laL l))) => dget_any W g b _ y.o (wf64 (by omega) (by omega)) dat hdok.out.few
          rw [hgo] at G
          unfold GetPost getX at G
          simp only [Option.isSome_some] at G
          obtain ⟨x, hx⟩ : ∃ x, hd.x = x := ⟨_, rfl⟩
          rw [hx] at G hxm hnw
          replace G := Lib.hid G
          clear hgo hx hmem hyo
          obtain ⟨x0, x1, x2, x3, x4, x5⟩ := hcell.out _ (S.r 0 rfl)
          go_wp2_with fail
          (with_reducible refine (G.out _ dat.out).mono ?_)
          rintro e w3 ⟨v3, rfl, hown, hb⟩
          clear x0 x1 x2 x3 x4 x5 G
          replace S := S.call hb
          replace dat := Lib.hid (dat.out.below hb)
          obtain ⟨A7, c7, B7, d7, rfl, hL7⟩ := hown.open
          clear hown hb
          have hbb := below_new' w3 (.cells #[.int .i64 x.o, .int .i64 x.s, .int .i64 x.a, .bool x.ov, .slice A7 x.adj.length c7, .slice B7 x.pre.length d7] 30)
          have T := S.new' #[.int .i64 x.o, .int .i64 x.s, .int .i64 x.a, .bool x.ov, .slice A7 x.adj.length c7, .slice B7 x.pre.length d7] 30 w3.heap.size _ rfl rfl
          have hx7 := hL7.out _ hbb
          replace dat := dat.out.below hbb
          clear hbb hL7 S
          go_upto_region 16 with fail
          generalize World.alloc _ _ = w4 at *
          generalize w3.heap.size = g3 at *
          obtain ⟨z, hz⟩ : ∃ z, newI y x = z := ⟨_, rfl⟩
          rw [hz] at hnw
          have NW : Hid (∀ W, Below w4.heap.size w4 W → Calls Try.prog 16 #[laV y.o y.s y.a y.ov A2 y.adj.length c2 B2 y.pre.length d2, laV x.o x.s x.a x.ov A7 x.adj.length c7 B7 x.pre.length d7] W fun e w' => e = .returned (.int .i64 z) ∧ Below W.heap.size W w') := fun W hb => by
            have := lnewer_any W _ _ y x ((hso.below T.b).below hb) (hx7.below hb)
            rwa [hz] at this
          have hz0 : decide ((0 : Int) < z) = false := by simp; omega
          have hfnd : Hid ((laL l).any (fun a => sameB a x) = true) := List.any_eq_true.2 ⟨x, hxm, sameB_refl x⟩
          clear hz hnw hxm hso
          obtain ⟨y0, y1, y2, y3, y4, y5⟩ := hcell.out _ (T.r 0 rfl)
          have x0 := cell_regrown y0
          have x1 := cell_regrown y1
          have x2 := cell_regrown y2
          have x3 := cell_regrown y3
          have x4 := cell_regrown y4
          have x5 := cell_regrown y5
          clear y0 y1 y2 y3 y4 y5
          have a0 := cell_regrown (T.c 0 0 rfl rfl)
          have a1 := cell_regrown (T.c 0 1 rfl rfl)
          have a2 := cell_regrown (T.c 0 2 rfl rfl)
          have a3 := cell_regrown (T.c 0 3 rfl rfl)
          have a4 := cell_regrown (T.c 0 4 rfl rfl)
          have a5 := cell_regrown (T.c 0 5 rfl rfl)
          refine wp_region_quiet_below (by kernel_rfl) (by kernel_rfl) ?_
          repeat (go_big_quiet_step ((first | (go_at_call 16; with_reducible exact Calls.regrown_of (NW.out _ (below_regrown _ _ _))))))
          refine wpQuiet_nil ?_
          intro _ hw'
          obtain ⟨⟨dq, osq⟩, hw''⟩ := hw'
          subst hw''
          replace T := T.call (below_regrown _ dq osq)
          replace dat := dat.below (below_regrown _ dq osq)
          replace hx7 := hx7.below (below_regrown _ dq osq)
          generalize grow (redrawn _ dq) osq = w5 at *
          clear x0 x1 x2 x3 x4 x5 NW hz0 hcell
          clear a0 a1 a2 a3 a4 a5
          replace dat := Lib.hid dat
          replace hx7 := Lib.hid hx7
          have hf0 : Hid (((laL l).take 0).any (fun a => sameB a x) = false) := rfl
          go_wp2_with fail
          go_loopw [8, 9] (fun v8 v9 wr => ∃ (j : Nat) (fb : Bool), v9 = .int .i64 j ∧ v8 = .bool fb ∧ j ≤ k ∧ Hid (((laL l).take j).any (fun a => sameB a x) = fb) ∧ Hid (LaAt wr (laV x.o x.s x.a x.ov A7 x.adj.length c7 B7 x.pre.length d7) x) ∧ Hid (DbAt wr g b (insts (laL l))) ∧ St w wr [(g3, [.int .i64 x.o, .int .i64 x.s, .int .i64 x.a, .bool x.ov, .slice A7 x.adj.length c7, .slice B7 x.pre.length d7])] [(some ⟨ba, off, none⟩, lxV l)]) (fun _ v9 _ => k - (intOf v9).toNat)
          case atStart => exact ⟨0, false, rfl, rfl, by omega, hf0, hx7, dat, T⟩
          case round =>
            clear T dat hx7 hf0
            obtain ⟨j, fb, rfl, rfl, hj, hfb, hx7, dat, T⟩ := hrel
            by_cases hjn : j < k
            · have hjl : j < l.length := by rw [hn.out]; exact hjn
              have hso := hok.out l[j] (List.getElem_mem hjl)
              have hnx := fnd_next l x j hjl
              rw [hfb.out] at hnx
              obtain ⟨s, hs⟩ : ∃ s, l[j] = s := ⟨_, rfl⟩
              rw [hs] at hso hnx
              have hcell := fun W (h : Rd W (some ⟨ba, off, none⟩) (lxV l)) => lx_cells h j hjl s hs
              clear hs hjl hfb
              obtain ⟨y, A2, c2, B2, d2⟩ := s
              unfold LxOk at hso
              simp only at hso hnx hcell
              obtain ⟨sb, hsb⟩ : ∃ z, sameB y x = z := ⟨_, rfl⟩
              rw [hsb] at hnx
              replace hnx := Lib.hid hnx
              have SM : Hid (∀ W, Below wr.heap.size wr W → Calls Try.prog 17 #[laV y.o y.s y.a y.ov A2 y.adj.length c2 B2 y.pre.length d2, laV x.o x.s x.a x.ov A7 x.adj.length c7 B7 x.pre.length d7] W fun e w' => e = .returned (.bool sb) ∧ Below W.heap.size W w') := fun W hb => by
                have := rsamela_any W _ _ y x ((hso.below T.b).below hb) (hx7.out.below hb)
                rwa [hsb] at this
              clear hso hsb
              replace dat := dat.out
              replace hx7 := hx7.out
              obtain ⟨y0, y1, y2, y3, y4, y5⟩ := hcell _ (T.r 0 rfl)
              have x0 := cell_regrown y0
              have x1 := cell_regrown y1
              have x2 := cell_regrown y2
              have x3 := cell_regrown y3
              have x4 := cell_regrown y4
              have x5 := cell_regrown y5
              clear y0 y1 y2 y3 y4 y5 hcell
              have a0 := cell_regrown (T.c 0 0 rfl rfl)
              have a1 := cell_regrown (T.c 0 1 rfl rfl)
              have a2 := cell_regrown (T.c 0 2 rfl rfl)
              have a3 := cell_regrown (T.c 0 3 rfl rfl)
              have a4 := cell_regrown (T.c 0 4 rfl rfl)
              have a5 := cell_regrown (T.c 0 5 rfl rfl)
              cases fb
              all_goals
                go_upto_region 22 with fail
                refine wp_region_quiet_below (by kernel_rfl) (by kernel_rfl) ?_
                repeat (go_big_quiet_step ((first | (go_at_call 17; with_reducible exact Calls.regrown_of (SM.out _ (below_regrown _ _ _))))))
                refine wpQuiet_nil ?_
                intro _ hw'
                obtain ⟨⟨dq, osq⟩, hw''⟩ := hw'
                subst hw''
                replace T := T.call (below_regrown _ dq osq)
                replace dat := dat.below (below_regrown _ dq osq)
                replace hx7 := hx7.below (below_regrown _ dq osq)
                generalize grow (redrawn _ dq) osq = w6 at *
                clear x0 x1 x2 x3 x4 x5 SM
                clear a0 a1 a2 a3 a4 a5
                replace dat := Lib.hid dat
                replace hx7 := Lib.hid hx7
                go_wp2_with fail
                go_round
                case rel => exact ⟨j + 1, _, by go_num, rfl, by omega, hnx, hx7, dat, T⟩
                case measure => simp [intOf]; omega
            · obtain rfl : j = k := by omega
              obtain rfl : fb = true := by
                have := hfb.out
                rw [List.take_of_length_le (by simp [laL, hn.out]), hfnd.out] at this
                exact this.symm
              replace T := T.keepBoxes [] (by simp)
              clear hfb hfnd hx7 hjn hj
              go_wp2_with fail
              go_round
              case rel => exact ⟨k2 + 1, by go_num, by omega, dat, T⟩
              case measure => simp [intOf]; omega
        · replace S := S.b
          clear dat
          go_wp2_with fail
          go_ret
          exact ⟨rfl, S⟩

end Go.Proofs.Ytkmpmgojgidcgaa

namespace Go.Proofs.Ytkmpmgojgidcgaa
set_option linter.unusedVariables false
open Go.RowKit Go.Maps Go.Sort

set_option maxRecDepth 100000 in
set_option maxHeartbeats 3200000 in
theorem sleq_int (w : World) (A B : Option Addr) (n c m d : Nat) (xs ys : List Int) (hA : Rd w A (xs.map encZ)) (hB : Rd w B (ys.map encZ)) (hn : xs.length = n) (hm : ys.length = m) (b1 : n ≤ 9223372036854775807) :
    Calls Try.prog 44 #[.slice A n c, .slice B m d] w fun e w' => e = .returned (.bool (decide (xs = ys))) ∧ Below w.heap.size w w' := by
  obtain ⟨R, hR⟩ : ∃ R, decide (xs = ys) = R := ⟨_, rfl⟩
  rw [hR]
  have hF : xs ≠ ys → R = false := fun h => by rw [← hR]; exact decide_eq_false h
  have hT : xs = ys → R = true := fun h => by rw [← hR]; exact decide_eq_true h
  clear hR
  by_cases hnm : n = m
  rotate_left
  · obtain rfl := hF (fun h => hnm (by rw [← hn, ← hm, h]))
    have e2b : ((n : Int) != (m : Int)) = true := by simp; omega
    clear hnm hn hm hF hT
    go_enter Try.func44, Try.ntmps44
    go_wp2_with fail
    go_ret
    exact ⟨rfl, Below.refl _ _⟩
  subst hnm
  have S := ((St.start w).read hB).read hA
  clear hA hB
  replace hn := Lib.hid hn
  replace hm := Lib.hid hm
  replace hF := Lib.hid hF
  replace hT := Lib.hid hT
  go_enter Try.func44, Try.ntmps44
  go_wp2_with fail
  go_loopw [13] (fun v13 wr => ∃ i : Nat, v13 = .int .i64 i ∧ i ≤ n ∧ Hid (xs.take i = ys.take i) ∧ St w wr [] [(A, xs.map encZ), (B, ys.map encZ)]) (fun v13 _ => n - (intOf v13).toNat)
  case atStart => exact ⟨0, rfl, by omega, rfl, S⟩
  case round =>
    clear S
    obtain ⟨i, rfl, hi, htk, S⟩ := hrel
    by_cases him : i < n
    · have hkl : i < xs.length := by have := hn.out; omega
      have hkl' : i < ys.length := by have := hm.out; omega
      obtain ⟨b, off, rfl, hc⟩ := rd_at (S.r 0 rfl) (by simp only [List.length_map]; omega)
      obtain ⟨b', off', rfl, hc'⟩ := rd_at (S.r 1 rfl) (by simp only [List.length_map]; omega)
      have x0 : wr.cell? ⟨b, off + i, none⟩ = some (.int .i64 xs[i]) := hc i _ (by rw [List.getElem?_map, List.getElem?_eq_getElem hkl]; rfl)
      have y0 : wr.cell? ⟨b', off' + i, none⟩ = some (.int .i64 ys[i]) := hc' i _ (by rw [List.getElem?_map, List.getElem?_eq_getElem hkl']; rfl)
      have hs1 := List.take_succ_eq_append_getElem hkl
      have hs2 := List.take_succ_eq_append_getElem hkl'
      have hne : xs[i] ≠ ys[i] → R = false := fun h => hF.out (fun h2 => h (by subst h2; rfl))
      clear hc hc'
      generalize xs[i] = x at *
      generalize ys[i] = y at *
      by_cases e : x = y
      · have htk2 : Hid (xs.take (i + 1) = ys.take (i + 1)) := by show _ = _; rw [hs1, hs2, htk.out, e]
        have e0 : (x != y) = false := by simp [e]
        clear hs1 hs2 hne e
        go_wp2_with fail
        go_quiet (fail)
        go_wp2_with fail
        go_round
        case rel => exact ⟨i + 1, by go_num, by omega, htk2, S.drewN nq⟩
        case measure => simp [intOf]; omega
      · obtain rfl := hne e
        have e0 : (x != y) = true := by simp [e]
        clear hs1 hs2 hne e
        go_wp2_with fail
        go_quiet (fail)
        go_wp2_with fail
        go_ret
        exact ⟨rfl, below_drewN S.b nq⟩
    · obtain rfl : i = n := by omega
      have heq : xs = ys := by
        have := htk.out
        rwa [List.take_of_length_le (by have := hn.out; omega), List.take_of_length_le (by have := hm.out; omega)] at this
      obtain rfl := hT.out heq
      clear heq
      go_wp2_with fail
      go_ret
      exact ⟨rfl, S.b⟩

/-! ### A database that may be nil -/
def DbP (w : World) (v : Value) (N : Db) : Prop := (v = .pointer none ∧ N = fun _ => none) ∨ ∃ g b, v = .pointer (some ⟨g, 0, none⟩) ∧ DbAt w g b N
theorem DbAt.p {w : World} {g b : Nat} {N : Db} (h : DbAt w g b N) : DbP w (.pointer (some ⟨g, 0, none⟩)) N := .inr ⟨g, b, rfl, h⟩
theorem DbP.nil (w : World) : DbP w (.pointer none) (fun _ => none) := .inl ⟨rfl, rfl⟩
theorem DbP.below {w w' : World} {v : Value} {N : Db} (h : DbP w v N) (hb : Below w.heap.size w w') : DbP w' v N := by
  rcases h with h | ⟨g, b, e, h⟩
  · exact .inl h
  · exact .inr ⟨g, b, e, h.below hb⟩
theorem orgs_nil : orgs (fun _ => none) = [] := by
  unfold orgs
  rw [List.filter_eq_nil_iff]
  intro i _; simp
theorem dorigins_p (w : World) (v : Value) (N : Db) (h : DbP w v N) : Calls Try.prog 43 #[v] w fun e w' => ∃ A c, e = .returned (.slice A (orgs N).length c) ∧ Rd w' A ((orgs N).map encZ) ∧ Below w.heap.size w w' := by
  rcases h with ⟨rfl, rfl⟩ | ⟨g, b, rfl, h⟩
  · refine (dorigins_nil w).mono ?_
    rintro e w' ⟨rfl, rfl⟩
    rw [orgs_nil]
    exact ⟨none, 0, rfl, Rd.nil _ _, Below.refl _ _⟩
  · refine (dorigins_any w g b N h).mono ?_
    rintro e w' ⟨A, c, he, ho, hb⟩
    exact ⟨A, c, he, own_slice ho, hb⟩
/-- What is held for a number. -/
theorem DbAt.el {w : World} {g b : Nat} {N : Db} (h : DbAt w g b N) {q : Nat} (hq : q < 64) {hh : Hd} (hN : N q = some hh) :
    ∃ A c B d, (∀ w', Below w.heap.size w w' → (Instr.lookup 81 (.map (some b)) (.int .i64 (q : Int)) false).run Try.prog w' = .ok (hdV hh.x A c B d hh.l) w') ∧ LaAt w (laV hh.x.o hh.x.s hh.x.a hh.x.ov A hh.x.adj.length c B hh.x.pre.length d) hh.x := by
  obtain ⟨⟨M, hm, he⟩, hc⟩ := h
  have heq := he q hq
  rw [hN] at heq
  cases hM : M (q : Int) with
  | none => rw [hM] at heq; exact heq.elim
  | some vv =>
    rw [hM] at heq
    obtain ⟨A, c, B, d, rfl, hla⟩ := heq
    refine ⟨A, c, B, d, fun w' hb => ?_, hla.1⟩
    have := (hm.below hb).run_at (i := (q : Int)) (wf64 (by omega) (by omega))
    rw [hM] at this
    exact this
/-- Behind another database's turn. -/
theorem DbAt.keptOther {w w' : World} {g b b' : Nat} {N : Db} {M' : Int → Option Value} (h : DbAt w g b N) (hm' : MapIs w b' M') (hg : w.grownBy w' (some b')) (hne : b ≠ b') : DbAt w' g b N := by
  obtain ⟨⟨M, hm, he⟩, hc⟩ := h
  refine ⟨⟨M, hm.kept hg (fun e => by injection e with e; exact hne e.symm), fun i hi => (he i hi).keptMap hm' hg⟩, ?_⟩
  rw [World.cell?_of_block (a := ⟨g, 0, none⟩) (hg.block g (World.block_lt_of_cell? _ _ hc) (fun e => by injection e with e; subst e; rw [hm'.no_cell] at hc; cases hc))]
  exact hc
theorem DbAt.map {w : World} {g b : Nat} {N : Db} (h : DbAt w g b N) : ∃ M, MapIs w b M := by
  obtain ⟨⟨M, hm, _⟩, _⟩ := h
  exact ⟨M, hm⟩

/-- 'x.a'. -/
theorem hd_field (x : La) (A : Option Addr) (c : Nat) (B : Option Addr) (d : Nat) (l : Int) (W : World) : (Instr.field 89 (hdV x A c B d l) 0).run Try.prog W = .ok (laV x.o x.s x.a x.ov A x.adj.length c B x.pre.length d) W := by kernel_rfl

/-- What Equal answers. -/
def sameAt (N M : Db) (i : Int) : Bool := match N i.toNat, M i.toNat with | some a, some b => sameB a.x b.x | _, _ => true
def eqDb (N M : Db) : Bool := decide (orgs N = orgs M) && (orgs N).all (sameAt N M)

set_option maxRecDepth 100000 in
set_option maxHeartbeats 3200000 in
theorem dequal_any (w : World) (v u : Value) (N M : Db) (h1 : DbP w v N) (h2 : DbP w u M) : Calls Try.prog 25 #[v, u] w fun e w' => e = .returned (.bool (eqDb N M)) ∧ Below w.heap.size w w' := by
  have S := St.start w
  obtain ⟨R, hR⟩ : ∃ R, eqDb N M = R := ⟨_, rfl⟩
  rw [hR]
  have O1 := dorigins_p w v N h1
  have O2 := fun W (hb : Below w.heap.size w W) => dorigins_p W u M (h2.below hb)
  have hl1 := orgs_len N
  obtain ⟨n, hn⟩ : ∃ n, (orgs N).length = n := ⟨_, rfl⟩
  obtain ⟨m, hm⟩ : ∃ m, (orgs M).length = m := ⟨_, rfl⟩
  rw [hn] at O1 hl1
  rw [hm] at O2
  replace O1 := Lib.hid O1
  replace O2 := Lib.hid O2
  replace hR := Lib.hid hR
  replace hn := Lib.hid hn
  replace hm := Lib.hid hm
  go_enter Try.func25, Try.ntmps25
  go_wp2_with fail
  (with_reducible refine (O1.out).mono ?_)
  rintro e w1 ⟨A, c, rfl, r1, hb⟩
  replace S := S.call hb
  clear hb O1
  go_wp2_with fail
  (with_reducible refine (O2.out _ S.b).mono ?_)
  rintro e w2 ⟨B, d, rfl, r2, hb⟩
  replace S := S.call hb
  replace r1 := r1.below hb
  clear hb O2
  have EQ := sleq_int w2 A B n c m d (orgs N) (orgs M) r1 r2 hn.out hm.out (by omega)
  obtain ⟨q, hq⟩ : ∃ q, decide (orgs N = orgs M) = q := ⟨_, rfl⟩
  rw [hq] at EQ
  replace EQ := Lib.hid EQ
  go_wp2_with fail
  (with_reducible refine (EQ.out).mono ?_)
  rintro e w3 ⟨rfl, hb⟩
  replace S := S.call hb
  replace r1 := r1.below hb
  clear hb EQ r2
  cases q with
  | false =>
    obtain rfl : R = false := by rw [← hR.out]; unfold eqDb; rw [hq]; rfl
    go_wp2_with fail
    go_ret
    exact ⟨rfl, S.b⟩
  | true =>
  have hNM : orgs N = orgs M := of_decide_eq_true hq
  have hRa : (orgs N).all (sameAt N M) = R := by rw [← hR.out]; unfold eqDb; rw [hq]; simp
  have ha0 : Hid (((orgs N).take 0).all (sameAt N M) = true) := rfl
  replace hRa := Lib.hid hRa
  replace hNM := Lib.hid hNM
  replace h1 := Lib.hid h1
  replace h2 := Lib.hid h2
  replace r1 := Lib.hid r1
  clear hq hR hm
  go_wp2_with fail
  go_loopw [17] (fun v17 wr => ∃ (k : Nat), v17 = .int .i64 k ∧ k ≤ n ∧ Hid (((orgs N).take k).all (sameAt N M) = true) ∧ Hid (Rd wr A ((orgs N).map encZ)) ∧ St w wr [] []) (fun v17 _ => n - (intOf v17).toNat)
  case atStart => exact ⟨0, rfl, by omega, ha0, r1, S⟩
  case round =>
    clear S r1 ha0
    obtain ⟨k, rfl, hk, hak, r1, S⟩ := hrel
    by_cases hkn : k < n
    · have hkl : k < (orgs N).length := by rw [hn.out]; exact hkn
      have hsucc : ((orgs N).take (k + 1)).all (sameAt N M) = sameAt N M (orgs N)[k] := by
        rw [List.take_succ_eq_append_getElem hkl, List.all_append, hak.out]; simp
      have hm1 := (orgs_mem (N := N) (orgs N)[k]).1 (List.getElem_mem hkl)
      have hm2 := (orgs_mem (N := M) (orgs N)[k]).1 (by rw [← hNM.out]; exact List.getElem_mem hkl)
      have hall : sameAt N M (orgs N)[k] = false → R = false := fun h => by
        rw [← hRa.out, List.all_eq_false]
        exact ⟨_, List.getElem_mem hkl, by rw [h]; simp⟩
      obtain ⟨b14, off14, rfl, hz14⟩ := rd_at r1.out (by simp only [List.length_map]; omega)
      have z14 := hz14 k _ (by rw [List.getElem?_map, List.getElem?_eq_getElem hkl]; rfl)
      clear hz14
      obtain ⟨q, hq⟩ := Int.eq_ofNat_of_zero_le hm1.1.1
      rw [hq] at hsucc hm1 hm2 hall z14
      rw [Int.toNat_natCast] at hm1 hm2
      have hq64 : q < 64 := by have := hm1.1.2; omega
      obtain ⟨a, hNq⟩ := Option.isSome_iff_exists.1 hm1.2
      obtain ⟨b, hMq⟩ := Option.isSome_iff_exists.1 hm2.2
      have hsa : sameAt N M (q : Int) = sameB a.x b.x := by unfold sameAt; rw [Int.toNat_natCast, hNq, hMq]
      rw [hsa] at hsucc hall
      rcases h1.out with ⟨_, h0⟩ | ⟨g1, b1, hv1, d1⟩
      · rw [h0] at hNq; cases hNq
      rcases h2.out with ⟨_, h0⟩ | ⟨g2, b2, hv2, d2⟩
      · rw [h0] at hMq; cases hMq
      subst hv1 hv2
      obtain ⟨A1, c1, B1, e1, L1, la1⟩ := d1.el hq64 hNq
      obtain ⟨A2, c2, B2, e2, L2, la2⟩ := d2.el hq64 hMq
      have x0 := cell_regrown (cell_later S.b d1.cell)
      have y0 := cell_regrown (cell_later S.b d2.cell)
      have K1 := fun dq os => L1 _ (belowR S.b dq os S.b.size)
      have K2 := fun dq os => L2 _ (belowR S.b dq os S.b.size)
      obtain ⟨sb, hsb⟩ : ∃ z, sameB a.x b.x = z := ⟨_, rfl⟩
      rw [hsb] at hsucc hall
      have SM : Hid (∀ W, Below wr.heap.size wr W → Calls Try.prog 45 #[laV a.x.o a.x.s a.x.a a.x.ov A1 a.x.adj.length c1 B1 a.x.pre.length e1, laV b.x.o b.x.s b.x.a b.x.ov A2 b.x.adj.length c2 B2 b.x.pre.length e2] W fun e w' => e = .returned (.bool sb) ∧ Below W.heap.size W w') := fun W hb => by
        have := lsame_any W _ _ a.x b.x ((la1.below S.b).below hb) ((la2.below S.b).below hb)
        rwa [hsb] at this
      have FL1 := hd_field a.x A1 c1 B1 e1 a.l
      have FL2 := hd_field b.x A2 c2 B2 e2 b.l
      unfold hdV at K1 K2 FL1 FL2
      replace hsucc := Lib.hid hsucc
      replace hall := Lib.hid hall
      replace r1 := r1.out
      clear la1 la2 hsb hNq hMq hq hm1 hm2 hsa L1 L2 d1 d2 hkl hak
      go_upto_region 7 with fail
      clear z14
      refine wp_region_quiet_below (by kernel_rfl) (by kernel_rfl) ?_
      repeat (go_big_quiet_step ((first | (go_at_call 45; with_reducible exact Calls.regrown_of (SM.out _ (below_regrown _ _ _))))))
      refine wpQuiet_nil ?_
      intro _ hw'
      obtain ⟨⟨dq, osq⟩, hw''⟩ := hw'
      subst hw''
      replace S := S.call (below_regrown _ dq osq)
      replace r1 := r1.below (below_regrown _ dq osq)
      generalize grow (redrawn _ dq) osq = w6 at *
      replace r1 := Lib.hid r1
      clear x0 y0 K1 K2 SM FL1 FL2
      cases sb with
      | false =>
        obtain rfl := hall.out rfl
        go_wp2_with fail
        go_ret
        exact ⟨rfl, S.b⟩
      | true =>
        go_wp2_with fail
        go_round
        case rel => exact ⟨k + 1, by go_num, by omega, hsucc, r1, S⟩
        case measure => simp [intOf]; omega
    · obtain rfl : k = n := by omega
      obtain rfl : R = true := by
        have := hak.out
        rw [List.take_of_length_le (by rw [hn.out]; exact Nat.le_refl _), hRa.out] at this
        exact this
      go_wp2_with fail
      go_ret
      exact ⟨rfl, S.b⟩

end Go.Proofs.Ytkmpmgojgidcgaa

namespace Go.Proofs.Ytkmpmgojgidcgaa
set_option linter.unusedVariables false
open Go.RowKit Go.Maps Go.Sort

/-- An origin's place: an advertisement as it lies in memory, what is left of it, whether it is there. -/
structure Rs where
  x : Lx
  l : Int
  is : Bool
def hdL (s : Rs) : List Value := lxL s.x ++ [.int .i64 s.l]
def atsC (R : Nat → Rs) : Nat → List Value
  | 0 => []
  | n + 1 => atsC R n ++ hdL (R n)
def rdC (R : Nat → Rs) : List Value := (List.range 64).map (fun i => .bool (R i).is) ++ atsC R 64
section
variable (R : Nat → Rs)
theorem hdL_len (s : Rs) : (hdL s).length = 7 := rfl
theorem atsC_len : ∀ n, (atsC R n).length = n * 7
  | 0 => rfl
  | n + 1 => by rw [atsC, List.length_append, atsC_len n, hdL_len]; omega
theorem atsC_at : ∀ n i, i < n → ∀ j, j < 7 → (atsC R n)[i * 7 + j]? = (hdL (R i))[j]?
  | 0, i, h => by omega
  | n + 1, i, h => fun j hj => by
    rw [atsC]
    by_cases e : i = n
    · subst e
      rw [List.getElem?_append_right (by rw [atsC_len]; omega), atsC_len]
      congr 1; omega
    · rw [List.getElem?_append_left (by rw [atsC_len]; omega)]
      exact atsC_at n i (by omega) j hj
theorem rdC_len : (rdC R).length = 512 := by unfold rdC; rw [List.length_append, atsC_len]; simp
theorem rdC_is {i : Nat} (hi : i < 64) : (rdC R)[i]? = some (.bool (R i).is) := by
  unfold rdC
  rw [List.getElem?_append_left (by simpa using hi)]
  simp [hi]
theorem rdC_at {i : Nat} (hi : i < 64) {j : Nat} (hj : j < 7) : (rdC R)[64 + i * 7 + j]? = (hdL (R i))[j]? := by
  unfold rdC
  rw [List.getElem?_append_right (by simp; omega)]
  simp only [List.length_map, List.length_range]
  rw [show 64 + i * 7 + j - 64 = i * 7 + j by omega]
  exact atsC_at R 64 i hi j hj
end
theorem rdC_ext {l : List Value} {R : Nat → Rs} (hl : l.length = 512) (h1 : ∀ i, i < 64 → l[i]? = some (.bool (R i).is)) (h2 : ∀ i, i < 64 → ∀ j, j < 7 → l[64 + i * 7 + j]? = (hdL (R i))[j]?) : l = rdC R := by
  apply List.ext_getElem?
  intro n
  by_cases h : n < 64
  · rw [h1 n h, rdC_is R h]
  · by_cases h5 : n < 512
    · have e : n = 64 + (n - 64) / 7 * 7 + (n - 64) % 7 := by omega
      rw [e, h2 _ (by omega) _ (by omega), rdC_at R (by omega) (by omega)]
    · rw [List.getElem?_eq_none (by omega), List.getElem?_eq_none (by rw [rdC_len]; omega)]
def upR (R : Nat → Rs) (i : Nat) (s : Rs) : Nat → Rs := fun j => if j = i then s else R j
theorem upR_same (R : Nat → Rs) (i : Nat) (s : Rs) : upR R i s i = s := by simp [upR]
theorem upR_other (R : Nat → Rs) {i j : Nat} (s : Rs) (h : j ≠ i) : upR R i s j = R j := by simp [upR, h]
theorem upR_upR (R : Nat → Rs) (i : Nat) (s s' : Rs) : upR (upR R i s) i s' = upR R i s' := by funext j; unfold upR; split <;> rfl
theorem rdC_set_is (R : Nat → Rs) {i : Nat} (hi : i < 64) (b : Bool) : (rdC R).set i (.bool b) = rdC (upR R i { R i with is := b }) := by
  refine rdC_ext (by rw [List.length_set, rdC_len]) (fun k hk => ?_) (fun k hk j hj => ?_)
  · by_cases e : i = k
    · subst e
      rw [List.getElem?_set_self (by rw [rdC_len]; omega), upR_same]
    · rw [List.getElem?_set_ne e, rdC_is R hk, upR_other R _ (fun h => e h.symm)]
  · rw [List.getElem?_set_ne (by omega), rdC_at R hk hj]
    by_cases e : i = k
    · subst e; rw [upR_same]; rfl
    · rw [upR_other R _ (fun h => e h.symm)]
theorem rdC_set_at (R : Nat → Rs) {i : Nat} (hi : i < 64) {j : Nat} (hj : j < 7) (v : Value) (s : Rs) (hs : s.is = (R i).is) (hv : (hdL (R i)).set j v = hdL s) : (rdC R).set (64 + i * 7 + j) v = rdC (upR R i s) := by
  refine rdC_ext (by rw [List.length_set, rdC_len]) (fun k hk => ?_) (fun k hk m hm => ?_)
  · rw [List.getElem?_set_ne (by omega), rdC_is R hk]
    by_cases e : i = k
    · subst e; rw [upR_same, hs]
    · rw [upR_other R _ (fun h => e h.symm)]
  · by_cases e : i = k
    · subst e
      rw [upR_same, ← hv]
      by_cases e2 : j = m
      · subst e2
        rw [List.getElem?_set_self (by rw [rdC_len]; omega), List.getElem?_set_self (by rw [hdL_len]; omega)]
      · rw [List.getElem?_set_ne (by omega), List.getElem?_set_ne e2, rdC_at R hi hm]
    · rw [upR_other R _ (fun h => e h.symm), List.getElem?_set_ne (by omega), rdC_at R hk hm]
theorem rdC_one (R : Nat → Rs) : ∀ v ∈ rdC R, v.oneCell' = true := by
  intro v hv
  obtain ⟨n, hn, rfl⟩ := List.getElem_of_mem hv
  rw [rdC_len] at hn
  by_cases h : n < 64
  · have := rdC_is R h
    rw [List.getElem?_eq_getElem (by rw [rdC_len]; omega)] at this
    injection this with this
    rw [this]; rfl
  · have e : n = 64 + (n - 64) / 7 * 7 + (n - 64) % 7 := by omega
    have := rdC_at R (i := (n - 64) / 7) (by omega) (j := (n - 64) % 7) (by omega)
    rw [← e, List.getElem?_eq_getElem (by rw [rdC_len]; omega)] at this
    have hm := List.mem_of_getElem? this.symm
    simp only [hdL, lxL, List.cons_append, List.nil_append, List.mem_cons, List.not_mem_nil, or_false] at hm
    rcases hm with e | e | e | e | e | e | e <;> rw [e] <;> rfl
/-- What the database holds. -/
def dbOf (R : Nat → Rs) : Db := fun i => if i < 64 ∧ (R i).is = true then some ⟨(R i).x.y, (R i).l⟩ else none
theorem dbOf_small (R : Nat → Rs) : ∀ i, 64 ≤ i → dbOf R i = none := fun i hi => if_neg (by omega)
/-- All advertisements, the gone ones too, can be read. -/
def RdOk (w : World) (R : Nat → Rs) : Prop := ∀ i, i < 64 → LxOk w (R i).x
theorem RdOk.below {w w' : World} {R : Nat → Rs} (h : RdOk w R) (hb : Below w.heap.size w w') : RdOk w' R := fun i hi => by
  have := h i hi
  unfold LxOk at *
  exact this.below hb
theorem RdOk.up {w : World} {R : Nat → Rs} (h : RdOk w R) (i : Nat) (s : Rs) (hs : LxOk w s.x) : RdOk w (upR R i s) := fun j hj => by
  by_cases e : j = i
  · subst e; rw [upR_same]; exact hs
  · rw [upR_other R _ e]; exact h j hj
def lxZ : Lx := ⟨laZero, none, 0, none, 0⟩
def rsZ : Rs := ⟨lxZ, 0, false⟩
theorem rsZ_ok (w : World) : RdOk w (fun _ => rsZ) := fun i _ => (laZero_own w w.heap.size).at
theorem dbOf_zero : dbOf (fun _ => rsZ) = fun _ => none := by funext i; unfold dbOf; rw [if_neg (by simp [rsZ])]
set_option maxRecDepth 100000 in
theorem rdC_zero : (rdC (fun _ => rsZ)).toArray = Try.zeroCells46 := by kernel_rfl

/-! ### In memory -/
theorem Box.range {w : World} {g : Nat} {cs : List Value} (h : Box w g cs) : w.rangeAt g 0 cs := fun j v hv => by rw [Nat.zero_add]; exact (h j v hv).1
theorem Box.there {w : World} {g : Nat} {cs : List Value} (h : Box w g cs) {n : Nat} (hn : cs.length = n) : w.there g 0 n := fun j hj => by
  have := h j _ (List.getElem?_eq_getElem (by omega))
  rw [Nat.zero_add]
  exact ⟨by rw [this.1]; rfl, this.2⟩
theorem Box.setAll {w : World} {g : Nat} {cs : List Value} (h : Box w g cs) (cs' : List Value) (hl : cs'.length = cs.length) : Box (w.setCells g 0 cs') g cs' := fun i u hu => by
  have h1 := World.rangeAt_setCells_same w g 0 cs' (by rw [hl]; exact h.there rfl) i u hu
  rw [Nat.zero_add] at h1
  refine ⟨h1, ?_⟩
  rw [World.frozen?_setCells]
  exact (h i _ (List.getElem?_eq_getElem (by have := (List.getElem?_eq_some_iff.1 hu).1; omega))).2
theorem Box.farAll {w : World} {g : Nat} {cs : List Value} (h : Box w g cs) (g' o : Nat) (vs : List Value) (hk : g' ≠ g) : Box (w.setCells g' o vs) g cs := fun i u hu => by
  refine ⟨?_, by rw [World.frozen?_setCells]; exact (h i u hu).2⟩
  rw [World.cell?_setCells_out g' vs o w ⟨g, i, none⟩ (fun e _ => absurd e.symm hk)]
  exact (h i u hu).1
theorem below_setCells {W : World} {g : Nat} (hg : W.heap.size ≤ g) : ∀ (vs : List Value) (o : Nat) (w : World), Below W.heap.size W w → Below W.heap.size W (w.setCells g o vs)
  | [], _, _, h => h
  | v :: r, o, w, h => by
    rw [World.setCells]
    exact below_setCells hg r (o + 1) _ (h.setCell (p := ⟨g, o, none⟩) hg v)
/-- All cells of a box stored anew. -/
theorem St.setAll {W w : World} {bs : List (Nat × List Value)} {rs : List (Option Addr × List Value)} (S : St W w bs rs) (i : Nat) (cs' : List Value) {g : Nat} {cs : List Value} (hi : bs[i]? = some (g, cs)) (hl : cs'.length = cs.length) (hg : W.heap.size ≤ g)
    (hd : ∀ x ∈ bs.eraseIdx i, x.1 ≠ g) (bs' : List (Nat × List Value)) (hbs : bs.set i (g, cs') = bs') : St W (w.setCells g 0 cs') bs' rs := by
  subst hbs
  refine ⟨below_setCells hg cs' 0 w S.b, fun k x hx => ?_, S.rd⟩
  by_cases hk : i = k
  · subst hk
    rw [List.getElem?_set_self (by have := (List.getElem?_eq_some_iff.1 hi).1; exact this)] at hx
    injection hx with hx
    subst hx
    exact (S.bx i _ hi).setAll cs' hl
  · rw [List.getElem?_set_ne hk] at hx
    exact (S.bx k x hx).farAll g 0 cs' (fun e => hd x (List.mem_eraseIdx_iff_getElem?.2 ⟨k, fun e' => hk e'.symm, hx⟩) e.symm)

end Go.Proofs.Ytkmpmgojgidcgaa

namespace Go.Proofs.Ytkmpmgojgidcgaa
set_option linter.unusedVariables false
open Go.RowKit Go.Maps Go.Sort

theorem laT : ElemT Try.prog 22 30 (.agg #[.int .i64 0, .int .i64 0, .int .i64 0, .bool false, .slice none 0 0, .slice none 0 0]) 6 80 := ⟨Try.underlying22, by kernel_rfl, rfl, by omega⟩
theorem lxL_one (s : Lx) : ∀ u ∈ lxL s, u.oneCell' = true := by
  intro u hu
  simp only [lxL, List.mem_cons, List.not_mem_nil, or_false] at hu
  rcases hu with e | e | e | e | e | e <;> rw [e] <;> rfl
theorem lxV_append (a b : List Lx) : lxV (a ++ b) = lxV a ++ lxV b := by
  induction a with
  | nil => rfl
  | cons r l ih => simp only [List.cons_append, lxV, ih, List.append_assoc]
theorem Box.belowB {w w' : World} {g B : Nat} {cs : List Value} (h : Box w g cs) (hb : Below B w w') (hg : g < B) : Box w' g cs := fun i u hu => by
  have hk := hb.block g hg
  have := h i u hu
  exact ⟨(World.cell?_of_block (a := ⟨g, i, none⟩) hk).trans this.1, (World.frozen?_of_block (a := ⟨g, i, none⟩) hk).trans this.2⟩
theorem St.belowB {W w w' : World} {bs : List (Nat × List Value)} {rs : List (Option Addr × List Value)} {B : Nat} (S : St W w bs rs) (hb : Below B w w') (hB : W.heap.size ≤ B) (hd : ∀ x ∈ bs, x.1 < B) : St W w' bs rs :=
  ⟨S.b.trans (hb.mono hB), fun i x hx => (S.bx i x hx).belowB hb (hd x (List.mem_of_getElem? hx)), S.rd⟩
def allK (R : Nat → Rs) (k : Nat) : List Lx := ((List.range k).filter fun i => (R i).is).map fun i => (R i).x
abbrev allR (R : Nat → Rs) : List Lx := allK R 64
theorem allK_t {R : Nat → Rs} {k : Nat} (h : (R k).is = true) : allK R (k + 1) = allK R k ++ [(R k).x] := by simp [allK, List.range_succ, List.filter_append, h]
theorem allK_f {R : Nat → Rs} {k : Nat} (h : (R k).is = false) : allK R (k + 1) = allK R k := by simp [allK, List.range_succ, List.filter_append, h]
theorem allK_len (R : Nat → Rs) (k : Nat) : (allK R k).length ≤ k := by
  unfold allK
  rw [List.length_map]
  refine Nat.le_trans (List.length_filter_le _ _) ?_
  simp

set_option maxRecDepth 100000 in
set_option maxHeartbeats 3200000 in
theorem rall_any (w : World) (R : Nat → Rs) : Calls Try.prog 22 #[.agg (rdC R).toArray] w fun e w' => ∃ A c, e = .returned (.slice A (allR R).length c) ∧ w'.ownsRow w.heap.size 30 6 (.slice A (allR R).length c) (allR R).length (lxV (allR R)) ∧ Below w.heap.size w w' := by
  have S := (St.start w).new' (rdC R).toArray 46 w.heap.size (rdC R) rfl (by simp)
  have hsz : w.heap.size + 1 ≤ (w.alloc (.cells (rdC R).toArray 46)).heap.size := by simp
  go_enter Try.func22, Try.ntmps22
  go_upto_region 2 with fail
  generalize World.alloc w _ = w1 at *
  have hown : Hid (w1.ownsRow (w.heap.size + 1) 30 6 (.slice none 0 0) (allK R 0).length (lxV (allK R 0))) := World.ownsRow_nil _ _ _ _
  go_wp2_with fail
  go_loopw [3, 4] (fun v3 v4 wr => ∃ (k : Nat) (A : Option Addr) (c : Nat), v4 = .int .i64 k ∧ v3 = .slice A (allK R k).length c ∧ k ≤ 64 ∧ w.heap.size + 1 ≤ wr.heap.size ∧ Hid (wr.ownsRow (w.heap.size + 1) 30 6 (.slice A (allK R k).length c) (allK R k).length (lxV (allK R k))) ∧ St w wr [(w.heap.size, rdC R)] []) (fun _ v4 _ => 64 - (intOf v4).toNat)
  case atStart => exact ⟨0, none, 0, rfl, rfl, by omega, hsz, hown, S⟩
  case round =>
    clear S hown hsz
    obtain ⟨k, A, c, rfl, rfl, hk, hsz, hown, S⟩ := hrel
    by_cases hkn : k < 64
    · have c0 := S.c 0 k rfl (rdC_is R hkn)
      have hlen := allK_len R k
      obtain ⟨is, his⟩ : ∃ z, (R k).is = z := ⟨_, rfl⟩
      rw [his] at c0
      cases is with
      | false =>
        rw [← allK_f his] at hown ⊢
        clear hlen his
        go_wp2_with fail
        go_round
        case rel => exact ⟨k + 1, A, c, by go_num, rfl, by omega, hsz, hown, S⟩
        case measure => simp [intOf]; omega
      | true =>
        have hsucc := allK_t his
        obtain ⟨s, hs⟩ : ∃ z, (R k).x = z := ⟨_, rfl⟩
        have hat := fun j hj => rdC_at R hkn (j := j) hj
        have x0 := S.c 0 (64 + k * 7 + 0) rfl ((hat 0 (by omega)).trans rfl)
        have x1 := S.c 0 (64 + k * 7 + 1) rfl ((hat 1 (by omega)).trans rfl)
        have x2 := S.c 0 (64 + k * 7 + 2) rfl ((hat 2 (by omega)).trans rfl)
        have x3 := S.c 0 (64 + k * 7 + 3) rfl ((hat 3 (by omega)).trans rfl)
        have x4 := S.c 0 (64 + k * 7 + 4) rfl ((hat 4 (by omega)).trans rfl)
        have x5 := S.c 0 (64 + k * 7 + 5) rfl ((hat 5 (by omega)).trans rfl)
        simp only [Nat.add_zero] at x0
        rw [hs] at x0 x1 x2 x3 x4 x5 hsucc
        have hown2 := own_below hown.out (below_new' wr (.cells #[.int .i64 s.y.o, .int .i64 s.y.s, .int .i64 s.y.a, .bool s.y.ov, .slice s.A s.y.adj.length s.c, .slice s.B s.y.pre.length s.d] 30))
        have rd0 := Rd.lit wr #[.int .i64 s.y.o, .int .i64 s.y.s, .int .i64 s.y.a, .bool s.y.ov, .slice s.A s.y.adj.length s.c, .slice s.B s.y.pre.length s.d] 30
        have S2 := S.alloc (.cells #[.int .i64 s.y.o, .int .i64 s.y.s, .int .i64 s.y.a, .bool s.y.ov, .slice s.A s.y.adj.length s.c, .slice s.B s.y.pre.length s.d] 30)
        have hsz2 : w.heap.size + 1 ≤ (wr.alloc (.cells #[.int .i64 s.y.o, .int .i64 s.y.s, .int .i64 s.y.a, .bool s.y.ov, .slice s.A s.y.adj.length s.c, .slice s.B s.y.pre.length s.d] 30)).heap.size := by simp; omega
        have hl1 : (allK R (k + 1)).length = (allK R k).length + 1 := by rw [hsucc]; simp
        have hl2 : lxV (allK R (k + 1)) = lxV (allK R k) ++ lxL s := by rw [hsucc, lxV_append]; simp [lxV]
        generalize lxV (allK R k) = L at *
        generalize (allK R k).length = n at *
        replace hl1 := Lib.hid hl1
        replace hl2 := Lib.hid hl2
        clear hat hs hsucc hown S his
        go_wp2_with (at_builtin; refine wpList_appB rfl laT (.tmp 13) (.tmp 19) rfl (w.heap.size + 1) rfl hown2 (m := 1) rfl (by simp) rd0 (lxL_one s) (by simp only [maxLen]; omega) (by omega) hsz2 (n + 1) _ rfl rfl ?_; intro v3 w7 hown7 hbel7 hg7 hv7)
        clear x0 x1 x2 x3 x4 x5 c0 rd0 hown2
        replace S2 := S2.belowB hbel7 (by omega) (by simp)
        have hsz7 := Nat.le_trans hsz2 hbel7.size
        rw [← hl1.out, show L ++ [_, _, _, _, _, _] = L ++ lxL s from rfl, ← hl2.out] at hown7
        obtain ⟨A7, c7, rfl, -⟩ := own_rd hown7
        replace hown7 := Lib.hid hown7
        clear hbel7 hg7 hv7 hsz2
        go_wp2_with fail
        go_round
        case rel => exact ⟨k + 1, A7, c7, by go_num, rfl, by omega, hsz7, hown7, S2⟩
        case measure => simp [intOf]; omega
    · obtain rfl : k = 64 := by omega
      go_wp2_with fail
      go_ret
      exact ⟨A, c, rfl, own_mono hown.out (by omega), S.b⟩

end Go.Proofs.Ytkmpmgojgidcgaa

namespace Go.Proofs.Ytkmpmgojgidcgaa
set_option linter.unusedVariables false
open Go.RowKit Go.Maps Go.Sort

theorem own_rowNe {w w' : World} {base : Nat} {e : TypeId} {size : Nat} {v : Value} {n : Nat} {xs : List Value} {row : Option Nat} (h : w.ownsRow base e size v n xs) (hg : w.grownBy w' row) (hne : v.ownBlock = none ∨ v.ownBlock ≠ row) : w'.ownsRow base e size v n xs := by
  refine ⟨h.1, ?_⟩
  rcases h.2 with h2 | ⟨g, cap, cur, rfl, hgb, hh, r⟩
  · exact .inl h2
  · exact .inr ⟨g, cap, cur, rfl, hgb, (hg.block g (h.lt g rfl).2 (fun e => by
      rcases hne with h3 | h3
      · cases h3
      · exact h3 e)).trans hh, r⟩
theorem LaOwn.app {w w' : World} {base base2 : Nat} {u : Value} {x : La} {v2 : Value} {n : Nat} {xs : List Value} (h : LaOwn w base u x) (hl : w.ownsRow base2 30 6 v2 n xs) (hg : w.grownBy w' v2.ownBlock) : LaOwn w' base u x := by
  obtain ⟨A, c, B, d, rfl, o1, o2, hu⟩ := h
  exact ⟨A, c, B, d, rfl, own_rowNe o1 hg (own_ne o1 hl (by decide)), own_rowNe o2 hg (own_ne o2 hl (by decide)), hu⟩
theorem LaOwn.mono' {w : World} {base base' : Nat} {u : Value} {x : La} (h : LaOwn w base u x) (hb : base' ≤ base) : LaOwn w base' u x := by
  obtain ⟨A, c, B, d, rfl, o1, o2, hu⟩ := h
  exact ⟨A, c, B, d, rfl, own_mono o1 hb, own_mono o2 hb, hu⟩
/-- An advertisement of the call's own. -/
def LxOwn (w : World) (base : Nat) (s : Lx) : Prop := LaOwn w base (laV s.y.o s.y.s s.y.a s.y.ov s.A s.y.adj.length s.c s.B s.y.pre.length s.d) s.y
theorem LxOwn.ok {w : World} {base : Nat} {s : Lx} (h : LxOwn w base s) : LxOk w s := LaOwn.at h
def allN (N : Db) : List La := (orgs N).map fun i => getX (N i.toNat)
def DAllPost (w : World) (N : Db) (e : Ending) (w' : World) : Prop :=
  ∃ A c ls, e = .returned (.slice A (orgs N).length c) ∧ w'.ownsRow w.heap.size 30 6 (.slice A (orgs N).length c) (orgs N).length (lxV ls) ∧ laL ls = allN N ∧ (∀ s ∈ ls, LxOwn w' w.heap.size s) ∧ Below w.heap.size w w'
/-- Within the loop. -/
structure AllAt (w wr : World) (N : Db) (B : Option Addr) (d : Nat) (k : Nat) (v : Value) (ls : List Lx) : Prop where
  og : wr.ownsRow w.heap.size 3 1 (.slice B (orgs N).length d) (orgs N).length ((orgs N).map encZ)
  own : wr.ownsRow w.heap.size 30 6 v k (lxV ls)
  la : laL ls = (allN N).take k
  ok : ∀ s ∈ ls, LxOwn wr w.heap.size s
  bel : Below w.heap.size w wr
theorem AllAt.below {w wr w' : World} {N : Db} {B : Option Addr} {d k : Nat} {v : Value} {ls : List Lx} (h : AllAt w wr N B d k v ls) (hb : Below wr.heap.size wr w') : AllAt w w' N B d k v ls :=
  ⟨own_below h.og hb, own_below h.own hb, h.la, fun s hs => LaOwn.below (h.ok s hs) hb, h.bel.trans (hb.mono h.bel.size)⟩
theorem AllAt.app {w wr w' : World} {N : Db} {B : Option Addr} {d k : Nat} {v v' : Value} {ls : List Lx} (h : AllAt w wr N B d k v ls) {s : Lx} (hs : LxOwn wr w.heap.size s) (hk : k < (orgs N).length) (hy : s.y = getX (N (orgs N)[k].toNat))
    (ho : w'.ownsRow w.heap.size 30 6 v' (k + 1) (lxV ls ++ lxL s)) (hb : Below w.heap.size wr w') (hg : wr.grownBy w' v.ownBlock) : AllAt w w' N B d (k + 1) v' (ls ++ [s]) := by
  refine ⟨own_rowNe h.og hg (own_ne h.og h.own (by decide)), by rw [lxV_append]; simpa [lxV] using ho, ?_, fun z hz => ?_, h.bel.trans hb⟩
  · have hk2 : k < (allN N).length := by simpa [allN] using hk
    rw [List.take_succ_eq_append_getElem hk2, ← h.la]
    have e2 : (allN N)[k] = s.y := by rw [hy]; simp [allN]
    rw [e2]; simp [laL]
  · rcases List.mem_append.1 hz with hz | hz
    · exact LaOwn.app (h.ok z hz) h.own hg
    · rw [List.mem_singleton.1 hz]; exact LaOwn.app hs h.own hg

set_option maxRecDepth 100000 in
set_option maxHeartbeats 6400000 in
theorem dall_any (w : World) (g b : Nat) (N : Db) (h : DbAt w g b N) (hok : DbOk N) : Calls Try.prog 21 #[.pointer (some ⟨g, 0, none⟩)] w (DAllPost w N) := by
  have O := dorigins_any w g b N h
  have hlen := orgs_len N
  have hfin : Hid (∀ w' A c ls B d, AllAt w w' N B d (orgs N).length (.slice A (orgs N).length c) ls → DAllPost w N (.returned (.slice A (orgs N).length c)) w') := fun w' A c ls B d T => ⟨A, c, ls, rfl, T.own, by rw [T.la, List.take_of_length_le (by simp [allN])], T.ok, T.bel⟩
  obtain ⟨n, hn⟩ : ∃ n, (orgs N).length = n := ⟨_, rfl⟩
  rw [hn] at O hlen hfin
  replace O := Lib.hid O
  replace hok := Lib.hid hok
  replace hn := Lib.hid hn
  replace h := Lib.hid h
  go_enter Try.func21, Try.ntmps21
  go_wp2_with fail
  (with_reducible refine (O.out).mono ?_)
  rintro e w1 ⟨B, d, rfl, o14, hb⟩
  have hT : Hid (AllAt w w1 N B d 0 (.slice none 0 0) []) := ⟨by rw [hn.out]; exact o14, World.ownsRow_nil _ _ _ _, by simp [laL], by simp, hb⟩
  clear O o14 hb
  go_wp2_with fail
  go_loopw [3, 9] (fun v3 v9 wr => ∃ (k : Nat) (A : Option Addr) (c : Nat) (ls : List Lx), v9 = .int .i64 k ∧ v3 = .slice A k c ∧ k ≤ n ∧ Hid (AllAt w wr N B d k (.slice A k c) ls)) (fun _ v9 _ => n - (intOf v9).toNat)
  case atStart => exact ⟨0, none, 0, [], rfl, rfl, by omega, hT⟩
  case round =>
    clear hT
    obtain ⟨k, A, c, ls, rfl, rfl, hk, hT⟩ := hrel
    by_cases hkn : k < n
    · have hkl : k < (orgs N).length := by rw [hn.out]; exact hkn
      have hm1 := (orgs_mem (N := N) (orgs N)[k]).1 (List.getElem_mem hkl)
      have T := hT.out
      have og := T.og
      rw [hn.out] at og
      obtain ⟨b14, off14, rfl, hz14⟩ := rd_at (own_slice og) (by simp only [List.length_map]; omega)
      have z14 := hz14 k _ (by rw [List.getElem?_map, List.getElem?_eq_getElem hkl]; rfl)
      obtain ⟨q, hq⟩ := Int.eq_ofNat_of_zero_le hm1.1.1
      rw [hq] at hm1 z14
      rw [Int.toNat_natCast] at hm1
      have hq64 : q < 64 := by have := hm1.1.2; omega
      obtain ⟨x, hNq⟩ := Option.isSome_iff_exists.1 hm1.2
      have hgx : getX (N (orgs N)[k].toNat) = x.x := by rw [hq, Int.toNat_natCast, hNq]; rfl
      have hd := h.out.below T.bel
      obtain ⟨A1, c1, B1, d1, L1, la1⟩ := hd.el hq64 hNq
      have hf := hok.out.few q x hNq
      have x0 := hd.cell
      have K1 := L1 wr (Below.refl _ _)
      have FL1 := hd_field x.x A1 c1 B1 d1 x.l
      have CL := dclone_any wr _ x.x la1 hf.1 hf.2
      unfold hdV at K1 FL1
      obtain ⟨y, hy⟩ : ∃ y, x.x = y := ⟨_, rfl⟩
      rw [hy] at K1 FL1 CL hgx
      replace CL := Lib.hid CL
      replace hgx := Lib.hid hgx
      clear hd og hz14 hm1 hq hNq L1 la1 hf hy hT
      replace T := Lib.hid T
      go_wp2_with fail
      (with_reducible refine (CL.out).mono ?_)
      rintro e w2 ⟨v2, rfl, hown, hb⟩
      clear z14 x0 K1 FL1 CL
      have hown' : LaOwn w2 w.heap.size v2 y := hown.mono' T.out.bel.size
      replace T := T.out.below hb
      obtain ⟨A5, c5, B5, d5, hv5⟩ := hown'.at.form
      subst hv5
      have hb3 := below_new' w2 (.cells #[.int .i64 y.o, .int .i64 y.s, .int .i64 y.a, .bool y.ov, .slice A5 y.adj.length c5, .slice B5 y.pre.length d5] 30)
      have rd0 := Rd.lit w2 #[.int .i64 y.o, .int .i64 y.s, .int .i64 y.a, .bool y.ov, .slice A5 y.adj.length c5, .slice B5 y.pre.length d5] 30
      have T3 := T.below hb3
      have hown3 : LxOwn _ w.heap.size ⟨y, A5, c5, B5, d5⟩ := LaOwn.below hown' hb3
      have hsz := T3.bel.size
      have o3 := T3.own
      clear hown hown' hb hb3 T
      replace T3 := Lib.hid T3
      replace hown3 := Lib.hid hown3
      go_wp2_with (at_builtin; refine wpList_appB rfl laT (.tmp 13) (.tmp 22) rfl w.heap.size rfl o3 (m := 1) rfl (by simp) rd0 (lxL_one ⟨y, A5, c5, B5, d5⟩) (by simp only [maxLen]; omega) (by omega) hsz (k + 1) _ rfl rfl ?_; intro v6 w6 o6 hbel6 hg6 hv6)
      obtain ⟨A7, c7, rfl, -⟩ := own_rd o6
      have T4 := Lib.hid (T3.out.app hown3.out hkl hgx.out.symm o6 hbel6 hg6)
      clear o6 hbel6 hg6 hv6 o3 rd0 T3 hown3 hsz
      go_wp2_with fail
      go_round
      case rel => exact ⟨k + 1, A7, c7, _, by go_num, rfl, by omega, T4⟩
      case measure => simp [intOf]; omega
    · obtain rfl : k = n := by omega
      have hf := hfin.out _ _ _ _ _ _ hT.out
      replace hf := Lib.hid hf
      go_wp2_with fail
      go_ret
      exact hf.out

end Go.Proofs.Ytkmpmgojgidcgaa

namespace Go.Proofs.Ytkmpmgojgidcgaa
set_option linter.unusedVariables false
open Go.RowKit Go.Maps Go.Sort

/-! ### Whole values -/
theorem infoR (R : Nat → Rs) : (Try.prog.info? 46).map (·.size) = some (rdC R).length := by rw [rdC_len]; kernel_rfl
theorem run_loadR {w : World} {g : Nat} {R : Nat → Rs} (h : Box w g (rdC R)) : (loadVar 46 ⟨g, 0, none⟩).run Try.prog w = .ok (.agg (rdC R).toArray) w :=
  run_loadVar_mid w g 0 _ (rdC R) _ h.range Try.underlying46 rfl (infoR R)
theorem wpList_loadR {w : World} {g : Nat} {R : Nat → Rs} {ops : Array Oper} {rest : List Oper} {op : Oper} {a : Act} {Q : Exit → Act → World → Prop} (hgd : op.guard = none) (x : Operand) (ho : op.op = .load 46 x) (hx : a.eval x = .pointer (some ⟨g, 0, none⟩)) (h : Box w g (rdC R))
    (hK : wpList Try.prog ops Q rest (a.put op.dst (.agg (rdC R).toArray)) w) : wpList Try.prog ops Q (op :: rest) a w :=
  wpList_load_mid hgd _ x ho g 0 hx (rdC R) _ h.range Try.underlying46 rfl (infoR R) hK
theorem wpList_storeR {w : World} {g : Nat} {R R' : Nat → Rs} {ops : Array Oper} {rest : List Oper} {op : Oper} {a : Act} {Q : Exit → Act → World → Prop} (hgd : op.guard = none) (x y : Operand) (ho : op.op = .store 46 x y) (hx : a.eval x = .pointer (some ⟨g, 0, none⟩)) (hy : a.eval y = .agg (rdC R').toArray) (h : Box w g (rdC R))
    (hK : wpList Try.prog ops Q rest (a.put op.dst undef) (w.setCells g 0 (rdC R'))) : wpList Try.prog ops Q (op :: rest) a w :=
  wpList_store_mid hgd _ x y ho g 0 (rdC R').toArray hx hy (by rw [List.size_toArray, rdC_len]; exact h.there (rdC_len R)) (by rw [List.size_toArray]; exact infoR R') (all_oneCell_toArray (rdC_one R')) (by simpa using hK)
theorem resR {fn : Func} {p u : Tmp} (h : fn.results = #[.cell p 46, .tmp u]) {tmps : Array Value} {w : World} {g : Nat} {R : Nat → Rs} (hb : Box w g (rdC R)) (hp : tmps.getD p undef = .pointer (some ⟨g, 0, none⟩)) {v : Value} (hu : tmps.getD u undef = v) :
    (results fn tmps).run Try.prog w = .ok (.tuple #[.agg (rdC R).toArray, v]) w := by
  rw [results_cell_tmp h, hp, hu]
  simp only [asAddr, Sem.run_pure, Result.andThen_ok, run_loadR hb]
theorem St.setAllR {W w : World} {bs : List (Nat × List Value)} {rs : List (Option Addr × List Value)} (S : St W w bs rs) (i : Nat) (R' : Nat → Rs) {g : Nat} {R : Nat → Rs} (hi : bs[i]? = some (g, rdC R)) (hg : W.heap.size ≤ g)
    (hd : ∀ x ∈ bs.eraseIdx i, x.1 ≠ g) (bs' : List (Nat × List Value)) (hbs : bs.set i (g, rdC R') = bs') : St W (w.setCells g 0 (rdC R')) bs' rs :=
  S.setAll i (rdC R') hi (by rw [rdC_len, rdC_len]) hg hd bs' hbs
/-! ### Seven cells stored -/
theorem rdC_set_at' (R : Nat → Rs) {i : Nat} (hi : i < 64) {j : Nat} (hj : j < 7) (v : Value) (s t : Rs) (ht : R i = t) (hs : s.is = t.is) (hv : (hdL t).set j v = hdL s) : (rdC R).set (64 + i * 7 + j) v = rdC (upR R i s) :=
  rdC_set_at R hi hj v s (by rw [ht]; exact hs) (by rw [ht]; exact hv)
theorem rdC_set7 (R : Nat → Rs) {i : Nat} (hi : i < 64) (s : Rs) (hs : s.is = (R i).is) :
    (((((((rdC R).set (64 + i * 7) (.int .i64 s.x.y.o)).set (64 + i * 7 + 1) (.int .i64 s.x.y.s)).set (64 + i * 7 + 2) (.int .i64 s.x.y.a)).set (64 + i * 7 + 3) (.bool s.x.y.ov)).set (64 + i * 7 + 4) (.slice s.x.A s.x.y.adj.length s.x.c)).set (64 + i * 7 + 5) (.slice s.x.B s.x.y.pre.length s.x.d)).set (64 + i * 7 + 6) (.int .i64 s.l) = rdC (upR R i s) := by
  obtain ⟨⟨⟨o, sq, ag, ov, adj, pre⟩, A, c, B, d⟩, l, is⟩ := s
  obtain ⟨t, ht⟩ : ∃ t, R i = t := ⟨_, rfl⟩
  rw [ht] at hs
  obtain ⟨⟨⟨o', sq', ag', ov', adj', pre'⟩, A', c', B', d'⟩, l', is'⟩ := t
  simp only at hs ⊢
  subst hs
  have e0 := rdC_set_at' R hi (j := 0) (by omega) (.int .i64 o) ⟨⟨⟨o, sq', ag', ov', adj', pre'⟩, A', c', B', d'⟩, l', is⟩ _ ht rfl rfl
  rw [Nat.add_zero] at e0
  rw [e0]
  rw [rdC_set_at' (upR R i ⟨⟨⟨o, sq', ag', ov', adj', pre'⟩, A', c', B', d'⟩, l', is⟩) hi (j := 1) (by omega) (.int .i64 sq) ⟨⟨⟨o, sq, ag', ov', adj', pre'⟩, A', c', B', d'⟩, l', is⟩ ⟨⟨⟨o, sq', ag', ov', adj', pre'⟩, A', c', B', d'⟩, l', is⟩ (upR_same _ _ _) rfl rfl, upR_upR]
  rw [rdC_set_at' (upR R i ⟨⟨⟨o, sq, ag', ov', adj', pre'⟩, A', c', B', d'⟩, l', is⟩) hi (j := 2) (by omega) (.int .i64 ag) ⟨⟨⟨o, sq, ag, ov', adj', pre'⟩, A', c', B', d'⟩, l', is⟩ ⟨⟨⟨o, sq, ag', ov', adj', pre'⟩, A', c', B', d'⟩, l', is⟩ (upR_same _ _ _) rfl rfl, upR_upR]
  rw [rdC_set_at' (upR R i ⟨⟨⟨o, sq, ag, ov', adj', pre'⟩, A', c', B', d'⟩, l', is⟩) hi (j := 3) (by omega) (.bool ov) ⟨⟨⟨o, sq, ag, ov, adj', pre'⟩, A', c', B', d'⟩, l', is⟩ ⟨⟨⟨o, sq, ag, ov', adj', pre'⟩, A', c', B', d'⟩, l', is⟩ (upR_same _ _ _) rfl rfl, upR_upR]
  rw [rdC_set_at' (upR R i ⟨⟨⟨o, sq, ag, ov, adj', pre'⟩, A', c', B', d'⟩, l', is⟩) hi (j := 4) (by omega) (.slice A adj.length c) ⟨⟨⟨o, sq, ag, ov, adj, pre'⟩, A, c, B', d'⟩, l', is⟩ ⟨⟨⟨o, sq, ag, ov, adj', pre'⟩, A', c', B', d'⟩, l', is⟩ (upR_same _ _ _) rfl rfl, upR_upR]
  rw [rdC_set_at' (upR R i ⟨⟨⟨o, sq, ag, ov, adj, pre'⟩, A, c, B', d'⟩, l', is⟩) hi (j := 5) (by omega) (.slice B pre.length d) ⟨⟨⟨o, sq, ag, ov, adj, pre⟩, A, c, B, d⟩, l', is⟩ ⟨⟨⟨o, sq, ag, ov, adj, pre'⟩, A, c, B', d'⟩, l', is⟩ (upR_same _ _ _) rfl rfl, upR_upR]
  rw [rdC_set_at' (upR R i ⟨⟨⟨o, sq, ag, ov, adj, pre⟩, A, c, B, d⟩, l', is⟩) hi (j := 6) (by omega) (.int .i64 l) ⟨⟨⟨o, sq, ag, ov, adj, pre⟩, A, c, B, d⟩, l, is⟩ ⟨⟨⟨o, sq, ag, ov, adj, pre⟩, A, c, B, d⟩, l', is⟩ (upR_same _ _ _) rfl rfl, upR_upR]
theorem St.set1 {W w : World} {bs : List (Nat × List Value)} {rs : List (Option Addr × List Value)} {i g : Nat} {cs : List Value} (S : St W w bs rs ∧ bs[i]? = some (g, cs) ∧ (∀ x ∈ bs.eraseIdx i, x.1 ≠ g)) (hg : W.heap.size ≤ g) (j : Nat) (u : Value) (hj : j < cs.length) (cs' : List Value) (hcs : cs.set j u = cs') :
    St W (w.setCell ⟨g, j, none⟩ u) (bs.set i (g, cs')) rs ∧ (bs.set i (g, cs'))[i]? = some (g, cs') ∧ (∀ x ∈ (bs.set i (g, cs')).eraseIdx i, x.1 ≠ g) := by
  subst hcs
  obtain ⟨S, hi, hd⟩ := S
  have hl : i < bs.length := (List.getElem?_eq_some_iff.1 hi).1
  exact ⟨S.set i j u hi hj hg hd _ rfl, by rw [List.getElem?_set_self hl], by rwa [List.eraseIdx_set_eq]⟩
/-- A place stored anew. -/
theorem St.set7 {W w : World} {bs : List (Nat × List Value)} {rs : List (Option Addr × List Value)} {i g : Nat} {R : Nat → Rs} (S : St W w bs rs) (hi : bs[i]? = some (g, rdC R)) (hd : ∀ x ∈ bs.eraseIdx i, x.1 ≠ g) (hg : W.heap.size ≤ g) {k : Nat} (hk : k < 64) (s : Rs) (hs : s.is = (R k).is) (bs' : List (Nat × List Value)) (hbs : bs.set i (g, rdC (upR R k s)) = bs') :
    St W (((((((w.setCell ⟨g, 64 + k * 7, none⟩ (.int .i64 s.x.y.o)).setCell ⟨g, 64 + k * 7 + 1, none⟩ (.int .i64 s.x.y.s)).setCell ⟨g, 64 + k * 7 + 2, none⟩ (.int .i64 s.x.y.a)).setCell ⟨g, 64 + k * 7 + 3, none⟩ (.bool s.x.y.ov)).setCell ⟨g, 64 + k * 7 + 4, none⟩ (.slice s.x.A s.x.y.adj.length s.x.c)).setCell ⟨g, 64 + k * 7 + 5, none⟩ (.slice s.x.B s.x.y.pre.length s.x.d)).setCell ⟨g, 64 + k * 7 + 6, none⟩ (.int .i64 s.l)) bs' rs := by
  have hl : (rdC R).length = 512 := rdC_len R
  have T := St.set1 (St.set1 (St.set1 (St.set1 (St.set1 (St.set1 (St.set1 ⟨S, hi, hd⟩ hg (64 + k * 7) (.int .i64 s.x.y.o) (by omega) _ rfl) hg (64 + k * 7 + 1) (.int .i64 s.x.y.s) (by simp only [List.length_set]; omega) _ rfl) hg (64 + k * 7 + 2) (.int .i64 s.x.y.a) (by simp only [List.length_set]; omega) _ rfl) hg (64 + k * 7 + 3) (.bool s.x.y.ov) (by simp only [List.length_set]; omega) _ rfl) hg (64 + k * 7 + 4) (.slice s.x.A s.x.y.adj.length s.x.c) (by simp only [List.length_set]; omega) _ rfl) hg (64 + k * 7 + 5) (.slice s.x.B s.x.y.pre.length s.x.d) (by simp only [List.length_set]; omega) _ rfl) hg (64 + k * 7 + 6) (.int .i64 s.l) (by simp only [List.length_set]; omega) _ (rdC_set7 R hk s hs)
  have T1 := T.1
  simp only [List.set_set] at T1
  rwa [hbs] at T1

def RInstPost (w : World) (R : Nat → Rs) (v : Value) (a : La) (N' : Db) (r : Int) (e : Ending) (w' : World) : Prop :=
  ∃ R', e = .returned (.tuple #[.agg (rdC R').toArray, .int .i64 r]) ∧ (∀ W, RdOk W R → LaAt W v a → RdOk W R') ∧ dbOf R' = N' ∧ Below w.heap.size w w'
theorem dbOf_up (R : Nat → Rs) {k : Nat} (hk : k < 64) (s : Rs) (hs : s.is = true) : dbOf (upR R k s) = fun i => if i = k then some ⟨s.x.y, s.l⟩ else dbOf R i := by
  funext i
  unfold dbOf
  by_cases e : i = k
  · subst e; rw [upR_same, if_pos ⟨hk, hs⟩, if_pos rfl]
  · rw [upR_other R _ e, if_neg e]

set_option maxRecDepth 100000 in
set_option maxHeartbeats 6400000 in
theorem rinstall_any (w : World) (R : Nat → Rs) (v : Value) (a : La) (hR : RdOk w R) (hv : LaAt w v a) (hva : LaValid a) : Calls Try.prog 42 #[.agg (rdC R).toArray, v] w (RInstPost w R v a (instN (dbOf R) a) (instR (dbOf R) a)) := by
  obtain ⟨A, c, B, d, rfl, hl⟩ := hv.opened
  clear hv
  obtain ⟨ao, sq, aa, aov, adj, pre⟩ := a
  have ho := hva.1
  simp only at ho hl
  obtain ⟨k, rfl⟩ := Int.eq_ofNat_of_zero_le ho.1
  have hk : k < 64 := by omega
  have hpost : Hid (∀ R' r w', Below w.heap.size w w' → (∀ W, RdOk W R → LaAt W (laV k sq aa aov A adj.length c B pre.length d) ⟨k, sq, aa, aov, adj, pre⟩ → RdOk W R') → dbOf R' = instN (dbOf R) ⟨k, sq, aa, aov, adj, pre⟩ → instR (dbOf R) ⟨k, sq, aa, aov, adj, pre⟩ = r → RInstPost w R (laV k sq aa aov A adj.length c B pre.length d) ⟨k, sq, aa, aov, adj, pre⟩ (instN (dbOf R) ⟨k, sq, aa, aov, adj, pre⟩) (instR (dbOf R) ⟨k, sq, aa, aov, adj, pre⟩) (.returned (.tuple #[.agg (rdC R').toArray, .int .i64 r])) w') := fun R' r w' h1 h2 h3 h4 => ⟨R', by rw [h4], h2, h3, h1⟩
  have hvb := vB_t hva
  have hk9 : (k : Int) < 64 := by omega
  have hN : dbOf R k = if (R k).is = true then some ⟨(R k).x.y, (R k).l⟩ else none := by unfold dbOf; by_cases e : (R k).is = true <;> simp [e, hk]
  have hins : Hid (∀ (hr : instR (dbOf R) ⟨k, sq, aa, aov, adj, pre⟩ = 1), dbOf (upR (upR R k { R k with is := true }) k ⟨⟨⟨k, sq, aa, aov, adj, pre⟩, A, c, B, d⟩, 60, true⟩) = instN (dbOf R) ⟨k, sq, aa, aov, adj, pre⟩) := fun hr => by
    rw [upR_upR, dbOf_up R hk _ rfl]
    unfold instN
    rw [if_pos ⟨hvb, hr⟩]
    simp
  have hok2 : Hid (∀ W, RdOk W R → LaAt W (laV k sq aa aov A adj.length c B pre.length d) ⟨k, sq, aa, aov, adj, pre⟩ → RdOk W (upR (upR R k { R k with is := true }) k ⟨⟨⟨k, sq, aa, aov, adj, pre⟩, A, c, B, d⟩, 60, true⟩)) := fun W h1 h2 => by rw [upR_upR]; exact h1.up k _ h2
  have S := (((St.start w).new' (rdC R).toArray 46 w.heap.size (rdC R) rfl (by simp)).new' #[.int .i64 k, .int .i64 sq, .int .i64 aa, .bool aov, .slice A adj.length c, .slice B pre.length d] 30 (w.heap.size + 1) _ (by simp) rfl).new' Try.zeroCells46 46 (w.heap.size + 2) (rdC (fun _ => rsZ)) (by simp) (by rw [← rdC_zero])
  obtain ⟨is, his⟩ : ∃ z, (R k).is = z := ⟨_, rfl⟩
  rw [his] at hN
  have hd0 : ∀ x ∈ ([(w.heap.size + 2, rdC (fun _ => rsZ)), (w.heap.size + 1, [.int .i64 k, .int .i64 sq, .int .i64 aa, .bool aov, .slice A adj.length c, .slice B pre.length d]), (w.heap.size, rdC R)] : List (Nat × List Value)).eraseIdx 2, x.1 ≠ w.heap.size := by simp
  go_enter Try.func42, Try.ntmps42
  go_upto_region 1 with fail
  generalize World.alloc _ _ = w1 at *
  have b0 := S.c 1 0 rfl rfl
  have c0 := S.c 2 k rfl (rdC_is R hk)
  rw [his] at c0
  cases is with
  | false =>
    have hr : instR (dbOf R) ⟨k, sq, aa, aov, adj, pre⟩ = 1 := by
      unfold instR; rw [hvb, if_pos rfl]; simp only [Int.toNat_natCast, hN]; simp
    have hfin : Hid (∀ w', Below w.heap.size w w' → RInstPost w R (laV k sq aa aov A adj.length c B pre.length d) ⟨k, sq, aa, aov, adj, pre⟩ (instN (dbOf R) ⟨k, sq, aa, aov, adj, pre⟩) (instR (dbOf R) ⟨k, sq, aa, aov, adj, pre⟩) (.returned (.tuple #[.agg (rdC (upR (upR R k { R k with is := true }) k ⟨⟨⟨k, sq, aa, aov, adj, pre⟩, A, c, B, d⟩, 60, true⟩)).toArray, .int .i64 1])) w') := fun w' hb => hpost.out _ 1 w' hb hok2.out (hins.out hr) hr
    clear hN hins hr hpost hok2
    go_upto_region 7 with fail
    have T := S.set 2 k (.bool true) rfl (by rw [rdC_len]; omega) (Nat.le_refl _) hd0 [(w.heap.size + 2, rdC (fun _ => rsZ)), (w.heap.size + 1, [.int .i64 k, .int .i64 sq, .int .i64 aa, .bool aov, .slice A adj.length c, .slice B pre.length d]), (w.heap.size, rdC (upR R k { R k with is := true }))] (by rw [rdC_set_is R hk]; rfl)
    have T7 := T.set7 (i := 2) rfl (by simp) (Nat.le_refl _) hk ⟨⟨⟨k, sq, aa, aov, adj, pre⟩, A, c, B, d⟩, 60, true⟩ (by rw [upR_same]) _ rfl
    clear b0 c0
    have b0 := S.c 1 0 rfl rfl
    have b1 := S.c 1 1 rfl rfl
    have b2 := S.c 1 2 rfl rfl
    have b3 := S.c 1 3 rfl rfl
    have b4 := S.c 1 4 rfl rfl
    have b5 := S.c 1 5 rfl rfl
    have c0 := S.c 2 k rfl (rdC_is R hk)
    have g0 := S.f 2 k rfl (rdC_is R hk)
    have x0 := T.c 2 (64 + k * 7 + 0) rfl ((rdC_at _ hk (by omega)).trans (by rw [upR_same]; rfl))
    have f0 := S.f 2 (64 + k * 7 + 0) rfl ((rdC_at R hk (by omega)).trans rfl)
    have x1 := T.c 2 (64 + k * 7 + 1) rfl ((rdC_at _ hk (by omega)).trans (by rw [upR_same]; rfl))
    have f1 := S.f 2 (64 + k * 7 + 1) rfl ((rdC_at R hk (by omega)).trans rfl)
    have x2 := T.c 2 (64 + k * 7 + 2) rfl ((rdC_at _ hk (by omega)).trans (by rw [upR_same]; rfl))
    have f2 := S.f 2 (64 + k * 7 + 2) rfl ((rdC_at R hk (by omega)).trans rfl)
    have x3 := T.c 2 (64 + k * 7 + 3) rfl ((rdC_at _ hk (by omega)).trans (by rw [upR_same]; rfl))
    have f3 := S.f 2 (64 + k * 7 + 3) rfl ((rdC_at R hk (by omega)).trans rfl)
    have x4 := T.c 2 (64 + k * 7 + 4) rfl ((rdC_at _ hk (by omega)).trans (by rw [upR_same]; rfl))
    have f4 := S.f 2 (64 + k * 7 + 4) rfl ((rdC_at R hk (by omega)).trans rfl)
    have x5 := T.c 2 (64 + k * 7 + 5) rfl ((rdC_at _ hk (by omega)).trans (by rw [upR_same]; rfl))
    have f5 := S.f 2 (64 + k * 7 + 5) rfl ((rdC_at R hk (by omega)).trans rfl)
    have x6 := T.c 2 (64 + k * 7 + 6) rfl ((rdC_at _ hk (by omega)).trans (by rw [upR_same]; rfl))
    have f6 := S.f 2 (64 + k * 7 + 6) rfl ((rdC_at R hk (by omega)).trans rfl)
    simp only [Nat.add_zero] at x0 f0
    clear S T
    simp only at T7
    have T8 := T7.drew
    clear T7
    go_region_law (fail)
    all_goals
      clear b0 b1 b2 b3 b4 b5 c0 g0 x0 x1 x2 x3 x4 x5 x6 f0 f1 f2 f3 f4 f5 f6
      generalize World.drew _ = w8 at *
      generalize upR (upR R k _) k _ = R2 at *
      go_wp2_with (first | (refine wpList_loadR rfl (.tmp 2) rfl rfl (T8.box 2 rfl) ?_) | (refine wpList_storeR rfl (.tmp 4) (.tmp 35) rfl rfl rfl (T8.box 0 rfl) ?_))
      have T9 := T8.setAllR 0 R2 rfl (by omega) (by simp) _ rfl
      exact bodyPost_ret (v := .tuple #[.agg (rdC R2).toArray, .int .i64 1]) (resR rfl (T9.box 0 rfl) rfl rfl) rfl (hfin.out _ T9.b)
  | true =>
    have hN2 : dbOf R k = some ⟨(R k).x.y, (R k).l⟩ := by rw [hN]; simp
    clear hN
    have hRk := hR k hk
    unfold LxOk at hRk
    have hat := fun j (hj : j < 7) => rdC_at R hk (j := j) hj
    obtain ⟨s, hs⟩ : ∃ s, R k = s := ⟨_, rfl⟩
    have x0 := cell_regrown (S.c 2 (64 + k * 7 + 0) rfl ((hat 0 (by omega)).trans rfl))
    have x1 := cell_regrown (S.c 2 (64 + k * 7 + 1) rfl ((hat 1 (by omega)).trans rfl))
    have x2 := cell_regrown (S.c 2 (64 + k * 7 + 2) rfl ((hat 2 (by omega)).trans rfl))
    have x3 := cell_regrown (S.c 2 (64 + k * 7 + 3) rfl ((hat 3 (by omega)).trans rfl))
    have x4 := cell_regrown (S.c 2 (64 + k * 7 + 4) rfl ((hat 4 (by omega)).trans rfl))
    have x5 := cell_regrown (S.c 2 (64 + k * 7 + 5) rfl ((hat 5 (by omega)).trans rfl))
    simp only [Nat.add_zero] at x0
    rw [hs] at hRk hN2 x0 x1 x2 x3 x4 x5
    obtain ⟨⟨y, A9, c9, B9, d9⟩, lf, is9⟩ := s
    simp only at hRk hN2 x0 x1 x2 x3 x4 x5
    obtain ⟨z, hz⟩ : ∃ z, newI ⟨k, sq, aa, aov, adj, pre⟩ y = z := ⟨_, rfl⟩
    have NW : Hid (∀ W, Below w1.heap.size w1 W → Calls Try.prog 69 #[laV k sq aa aov A adj.length c B pre.length d, laV y.o y.s y.a y.ov A9 y.adj.length c9 B9 y.pre.length d9] W fun e w' => e = .returned (.int .i64 z) ∧ Below W.heap.size W w') := fun W hb => by
      have := rnewer_any W _ _ _ y ((hl.below S.b).below hb) ((hRk.below S.b).below hb)
      rwa [hz] at this
    have hR9 : instR (dbOf R) ⟨k, sq, aa, aov, adj, pre⟩ = if z = 0 then 2 else if z = -1 then 3 else 1 := by
      unfold instR; rw [hvb, if_pos rfl]; simp only [Int.toNat_natCast, hN2, hz]
    clear hat hN2 hs hz hRk
    go_upto_region 2 with fail
    clear b0
    have b0 := cell_regrown (S.c 1 0 rfl rfl)
    have b1 := cell_regrown (S.c 1 1 rfl rfl)
    have b2 := cell_regrown (S.c 1 2 rfl rfl)
    have b3 := cell_regrown (S.c 1 3 rfl rfl)
    have b4 := cell_regrown (S.c 1 4 rfl rfl)
    have b5 := cell_regrown (S.c 1 5 rfl rfl)
    refine wp_region_quiet_below (by kernel_rfl) (by kernel_rfl) ?_
    repeat (go_big_quiet_step ((first | (go_at_call 69; with_reducible exact Calls.regrown_of (NW.out _ (below_regrown _ _ _))))))
    refine wpQuiet_nil ?_
    intro _ hw'
    obtain ⟨⟨dq, osq⟩, hw''⟩ := hw'
    subst hw''
    replace S := S.call (below_regrown _ dq osq)
    generalize grow (redrawn _ dq) osq = w2 at *
    clear x0 x1 x2 x3 x4 x5 NW c0
    clear b0 b1 b2 b3 b4 b5
    by_cases hz0 : z = 0
    · subst hz0
      rw [if_pos rfl] at hR9
      have hfin : Hid (∀ w', Below w.heap.size w w' → RInstPost w R (laV k sq aa aov A adj.length c B pre.length d) ⟨k, sq, aa, aov, adj, pre⟩ (instN (dbOf R) ⟨k, sq, aa, aov, adj, pre⟩) (instR (dbOf R) ⟨k, sq, aa, aov, adj, pre⟩) (.returned (.tuple #[.agg (rdC R).toArray, .int .i64 2])) w') := fun w' hb => hpost.out _ 2 w' hb (fun W h1 _ => h1) (by unfold instN; rw [hR9, if_neg (by simp)]) hR9
      clear hR9 hpost hins hok2
      go_wp2_with (first | (refine wpList_loadR rfl (.tmp 2) rfl rfl (S.box 2 rfl) ?_) | (refine wpList_storeR rfl (.tmp 4) (.tmp 21) rfl rfl rfl (S.box 0 rfl) ?_))
      have T9 := S.setAllR 0 R rfl (by omega) (by simp) _ rfl
      exact bodyPost_ret (v := .tuple #[.agg (rdC R).toArray, .int .i64 2]) (resR rfl (T9.box 0 rfl) rfl rfl) rfl (hfin.out _ T9.b)
    by_cases hz1 : z = -1
    · subst hz1
      rw [if_neg (by omega), if_pos rfl] at hR9
      have hfin : Hid (∀ w', Below w.heap.size w w' → RInstPost w R (laV k sq aa aov A adj.length c B pre.length d) ⟨k, sq, aa, aov, adj, pre⟩ (instN (dbOf R) ⟨k, sq, aa, aov, adj, pre⟩) (instR (dbOf R) ⟨k, sq, aa, aov, adj, pre⟩) (.returned (.tuple #[.agg (rdC R).toArray, .int .i64 3])) w') := fun w' hb => hpost.out _ 3 w' hb (fun W h1 _ => h1) (by unfold instN; rw [hR9, if_neg (by simp)]) hR9
      clear hR9 hpost hins hok2 hz0
      go_wp2_with (first | (refine wpList_loadR rfl (.tmp 2) rfl rfl (S.box 2 rfl) ?_) | (refine wpList_storeR rfl (.tmp 4) (.tmp 24) rfl rfl rfl (S.box 0 rfl) ?_))
      have T9 := S.setAllR 0 R rfl (by omega) (by simp) _ rfl
      exact bodyPost_ret (v := .tuple #[.agg (rdC R).toArray, .int .i64 3]) (resR rfl (T9.box 0 rfl) rfl rfl) rfl (hfin.out _ T9.b)
    have hr : instR (dbOf R) ⟨k, sq, aa, aov, adj, pre⟩ = 1 := by rw [hR9, if_neg hz0, if_neg hz1]
    have z0 : (z == 0) = false := by simpa using hz0
    have z1 : (z == -1) = false := by simpa using hz1
    clear hR9 hz0 hz1
    have hfin : Hid (∀ w', Below w.heap.size w w' → RInstPost w R (laV k sq aa aov A adj.length c B pre.length d) ⟨k, sq, aa, aov, adj, pre⟩ (instN (dbOf R) ⟨k, sq, aa, aov, adj, pre⟩) (instR (dbOf R) ⟨k, sq, aa, aov, adj, pre⟩) (.returned (.tuple #[.agg (rdC (upR (upR R k { R k with is := true }) k ⟨⟨⟨k, sq, aa, aov, adj, pre⟩, A, c, B, d⟩, 60, true⟩)).toArray, .int .i64 1])) w') := fun w' hb => hpost.out _ 1 w' hb hok2.out (hins.out hr) hr
    clear hins hr hpost hok2
    go_upto_region 7 with fail
    have T := S.set 2 k (.bool true) rfl (by rw [rdC_len]; omega) (Nat.le_refl _) hd0 [(w.heap.size + 2, rdC (fun _ => rsZ)), (w.heap.size + 1, [.int .i64 k, .int .i64 sq, .int .i64 aa, .bool aov, .slice A adj.length c, .slice B pre.length d]), (w.heap.size, rdC (upR R k { R k with is := true }))] (by rw [rdC_set_is R hk]; rfl)
    have T7 := T.set7 (i := 2) rfl (by simp) (Nat.le_refl _) hk ⟨⟨⟨k, sq, aa, aov, adj, pre⟩, A, c, B, d⟩, 60, true⟩ (by rw [upR_same]) _ rfl
    have b0 := S.c 1 0 rfl rfl
    have b1 := S.c 1 1 rfl rfl
    have b2 := S.c 1 2 rfl rfl
    have b3 := S.c 1 3 rfl rfl
    have b4 := S.c 1 4 rfl rfl
    have b5 := S.c 1 5 rfl rfl
    have c0 := S.c 2 k rfl (rdC_is R hk)
    have g0 := S.f 2 k rfl (rdC_is R hk)
    have x0 := T.c 2 (64 + k * 7 + 0) rfl ((rdC_at _ hk (by omega)).trans (by rw [upR_same]; rfl))
    have f0 := S.f 2 (64 + k * 7 + 0) rfl ((rdC_at R hk (by omega)).trans rfl)
    have x1 := T.c 2 (64 + k * 7 + 1) rfl ((rdC_at _ hk (by omega)).trans (by rw [upR_same]; rfl))
    have f1 := S.f 2 (64 + k * 7 + 1) rfl ((rdC_at R hk (by omega)).trans rfl)
    have x2 := T.c 2 (64 + k * 7 + 2) rfl ((rdC_at _ hk (by omega)).trans (by rw [upR_same]; rfl))
    have f2 := S.f 2 (64 + k * 7 + 2) rfl ((rdC_at R hk (by omega)).trans rfl)
    have x3 := T.c 2 (64 + k * 7 + 3) rfl ((rdC_at _ hk (by omega)).trans (by rw [upR_same]; rfl))
    have f3 := S.f 2 (64 + k * 7 + 3) rfl ((rdC_at R hk (by omega)).trans rfl)
    have x4 := T.c 2 (64 + k * 7 + 4) rfl ((rdC_at _ hk (by omega)).trans (by rw [upR_same]; rfl))
    have f4 := S.f 2 (64 + k * 7 + 4) rfl ((rdC_at R hk (by omega)).trans rfl)
    have x5 := T.c 2 (64 + k * 7 + 5) rfl ((rdC_at _ hk (by omega)).trans (by rw [upR_same]; rfl))
    have f5 := S.f 2 (64 + k * 7 + 5) rfl ((rdC_at R hk (by omega)).trans rfl)
    have x6 := T.c 2 (64 + k * 7 + 6) rfl ((rdC_at _ hk (by omega)).trans (by rw [upR_same]; rfl))
    have f6 := S.f 2 (64 + k * 7 + 6) rfl ((rdC_at R hk (by omega)).trans rfl)
    simp only [Nat.add_zero] at x0 f0
    clear S T
    simp only at T7
    have T8 := T7.drew
    clear T7
    go_region_law (fail)
    all_goals
      clear b0 b1 b2 b3 b4 b5 c0 g0 x0 x1 x2 x3 x4 x5 x6 f0 f1 f2 f3 f4 f5 f6
      generalize World.drew _ = w8 at *
      generalize upR (upR R k _) k _ = R2 at *
      go_wp2_with (first | (refine wpList_loadR rfl (.tmp 2) rfl rfl (T8.box 2 rfl) ?_) | (refine wpList_storeR rfl (.tmp 4) (.tmp 35) rfl rfl rfl (T8.box 0 rfl) ?_))
      have T9 := T8.setAllR 0 R2 rfl (by omega) (by simp) _ rfl
      exact bodyPost_ret (v := .tuple #[.agg (rdC R2).toArray, .int .i64 1]) (resR rfl (T9.box 0 rfl) rfl rfl) rfl (hfin.out _ T9.b)

end Go.Proofs.Ytkmpmgojgidcgaa

namespace Go.Proofs.Ytkmpmgojgidcgaa
set_option linter.unusedVariables false
open Go.RowKit Go.Maps Go.Sort

section
variable {P : Program} {ops : Array Oper} {Q : Exit → Act → World → Prop} {md : Region.Mode} {S : World → Prop} {i : Nat} {oi : Oper} {fuel : Nat} {listed : Array Bool} {a : Act} {w : World} {R : Nat → Rs}
/-- An operation that is plain to see is taken first. -/
theorem take_first {v : Value} (d : Option Tmp) (hi : ops[i]? = some oi) (hd : oi.dst = d) (hs : Region.noSelect ops = true) (hf : Region.free md ops listed i = true) (hr : (Region.ready md ops listed).contains i = true)
    (hQ : ∀ c a w, Q (.panic c) (a.put d v) w → Q (.panic c) a w) (hy : YieldsIf P ops S oi v a) (hS : S w)
    (h : wpAnyH P md ops Q S fuel (listed.setIfInBounds i true) (a.put d v) w) : wpAnyH P md ops Q S (fuel + 1) listed a w := by
  subst hd
  exact wpAnyH_take hi hs hf hr hQ hy hS h
/-- The whole database is loaded. -/
theorem ready_loadR (hr : Region.ready md ops listed = [i]) (hi : ops[i]? = some oi) (x : Operand) (d : Option Tmp) (hgd : oi.guard = none) (hd : oi.dst = d) (ho : oi.op = .load 46 x) {g : Nat} {R : Nat → Rs} (hx : a.eval x = .pointer (some ⟨g, 0, none⟩)) (hb : Box w g (rdC R)) (hS : S w)
    (h : wpAnyH Try.prog md ops Q S fuel (listed.setIfInBounds i true) (a.put d (.agg (rdC R).toArray)) w) : wpAnyH Try.prog md ops Q S (fuel + 1) listed a w := by
  subst hd
  refine wpAnyH_ready hr (by simp) (AllReadyH.cons hi (fun K hK => ?_) AllReadyH.nil)
  have hw : Region.wanted oi (yielded ops a.tmps) = true := by simp [Region.wanted, hgd]
  rw [if_pos hw]
  exact wp_load_mid _ x ho g 0 hx (rdC R) _ hb.range Try.underlying46 rfl (infoR R) (hK.out _ _ hS (fun _ => h))
/-- .. where nothing in the region writes it. -/
theorem take_loadR (d : Option Tmp) (hi : ops[i]? = some oi) (hd : oi.dst = d) (hs : Region.noSelect ops = true) (hf : Region.free md ops listed i = true) (hr : (Region.ready md ops listed).contains i = true)
    (hQ : ∀ c a w, Q (.panic c) (a.put d (.agg (rdC R).toArray)) w → Q (.panic c) a w) (hw : Region.wanted oi (yielded ops a.tmps) = true) (x : Operand) (ho : oi.op = .load 46 x) {g : Nat} (hx : a.eval x = .pointer (some ⟨g, 0, none⟩)) (hS' : ∀ w, S w → w.rangeAt g 0 (rdC R)) (hS : S w)
    (h : wpAnyH Try.prog md ops Q S fuel (listed.setIfInBounds i true) (a.put d (.agg (rdC R).toArray)) w) : wpAnyH Try.prog md ops Q S (fuel + 1) listed a w :=
  take_first d hi hd hs hf hr hQ (yieldsIf_load_mid hw _ x ho g 0 hx (rdC R) _ hS' Try.underlying46 rfl (infoR R)) hS h
/-- .. and stored. -/
theorem ready_storeR (hr : Region.ready md ops listed = [i]) (hi : ops[i]? = some oi) (x y : Operand) (d : Option Tmp) (hgd : oi.guard = none) (hd : oi.dst = d) (ho : oi.op = .store 46 x y) {g : Nat} {R R' : Nat → Rs} (hx : a.eval x = .pointer (some ⟨g, 0, none⟩)) (hy : a.eval y = .agg (rdC R').toArray) (hb : Box w g (rdC R)) (hS : S (w.setCells g 0 (rdC R')))
    (h : wpAnyH Try.prog md ops Q S fuel (listed.setIfInBounds i true) (a.put d undef) (w.setCells g 0 (rdC R'))) : wpAnyH Try.prog md ops Q S (fuel + 1) listed a w := by
  subst hd
  refine wpAnyH_ready hr (by simp) (AllReadyH.cons hi (fun K hK => ?_) AllReadyH.nil)
  have hw : Region.wanted oi (yielded ops a.tmps) = true := by simp [Region.wanted, hgd]
  rw [if_pos hw]
  exact wp_store_mid _ x y ho g 0 (rdC R').toArray hx hy (by rw [List.size_toArray, rdC_len]; exact hb.there (rdC_len R)) (by rw [List.size_toArray]; exact infoR R') (all_oneCell_toArray (rdC_one R')) (by
    rw [List.toList_toArray]
    exact hK.out _ _ hS (fun _ => h))
/-- A call of a Go function. -/
theorem ready_call (hr : Region.ready md ops listed = [i]) (hi : ops[i]? = some oi) (d : Option Tmp) (hgd : oi.guard = none) (hd : oi.dst = d) {f : FuncId} {xs : Array Operand} {ts : Array TypeId} (ho : oi.op = .call { callee := .value (.func f), args := xs, argTypes := ts })
    (h : ∀ K : Act → World → Prop, Shut (∀ v w', S w' → (S w' → wpAnyH P md ops Q S fuel (listed.setIfInBounds i true) (a.put d v) w') → K (a.put d v) w') → Oper.wp P { oi with dst := d } a w K Q) : wpAnyH P md ops Q S (fuel + 1) listed a w := by
  subst hd
  refine wpAnyH_ready hr (by simp) (AllReadyH.cons hi (fun K hK => ?_) AllReadyH.nil)
  have hw : Region.wanted oi (yielded ops a.tmps) = true := by simp [Region.wanted, hgd]
  rw [if_pos hw]
  exact h K (fun v w' hs hv => hK.out _ _ hs hv)
end

end Go.Proofs.Ytkmpmgojgidcgaa

namespace Go.Proofs.Ytkmpmgojgidcgaa
set_option linter.unusedVariables false
open Go.RowKit Go.Maps Go.Sort

theorem setCells_heap (g : Nat) : ∀ (vs : List Value) (o : Nat) (w : World) (k : Nat), k ≠ g → (w.setCells g o vs).heap[k]? = w.heap[k]?
  | [], _, _, _, _ => rfl
  | v :: r, o, w, k, h => by
    rw [World.setCells, setCells_heap g r (o + 1) _ k h]
    exact heap_setCell_other w ⟨g, o, none⟩ k v h
theorem setCells_size (g : Nat) : ∀ (vs : List Value) (o : Nat) (w : World), (w.setCells g o vs).heap.size = w.heap.size
  | [], _, _ => rfl
  | v :: r, o, w => by rw [World.setCells, setCells_size g r (o + 1)]; simp
theorem setCells_ty (g : Nat) (t : TypeId) : ∀ (vs : List Value) (o : Nat) (w : World), (∃ cs, w.heap[g]? = some (.cells cs t (0, 0))) → ∃ cs, (w.setCells g o vs).heap[g]? = some (.cells cs t (0, 0))
  | [], _, _, h => h
  | v :: r, o, w, ⟨cs, h⟩ => by
    rw [World.setCells]
    exact setCells_ty g t r (o + 1) _ ⟨_, heap_setCell_same w g o cs t v h⟩
theorem setCells_rest (g : Nat) : ∀ (vs : List Value) (o : Nat) (w : World), (w.setCells g o vs).os = w.os ∧ (w.setCells g o vs).tape = w.tape ∧ (w.setCells g o vs).output = w.output
  | [], _, _ => ⟨rfl, rfl, rfl⟩
  | v :: r, o, w => by
    rw [World.setCells]
    obtain ⟨h1, h2, h3⟩ := setCells_rest g r (o + 1) (w.setCell ⟨g, o, none⟩ v)
    exact ⟨h1, h2, h3⟩
theorem setCells_grown (w : World) (g o : Nat) (vs : List Value) : w.grownBy (w.setCells g o vs) (some g) := by
  obtain ⟨h1, h2, h3⟩ := setCells_rest g vs o w
  exact ⟨h1, h2, h3, by rw [setCells_size]; exact Nat.le_refl _, fun k _ hk => setCells_heap g vs o w k (fun e => hk (by rw [e]))⟩
theorem Rd.keptOff {w w' : World} {A : Option Addr} {xs : List Value} {g : Nat} (h : Rd w A xs) (hg : w.grownBy w' (some g)) (hf : 0 < xs.length → ∀ ad, A = some ad → ad.block ≠ g) : Rd w' A xs := by
  intro hn
  obtain ⟨ad, e, hb⟩ := h.block hn
  obtain ⟨ad', e', hc⟩ := h hn
  rw [e] at e'
  injection e' with e'
  subst e'
  refine ⟨ad, e, fun j u hu => ?_⟩
  rw [World.cell?_of_block (hg.block _ (by rw [addr_add_block]; exact hb) (by rw [addr_add_block]; exact fun e2 => hf hn ad e (by injection e2)))]
  exact hc j u hu
theorem TyA.off {w : World} {A : Option Addr} {n : Nat} {e t : TypeId} {g : Nat} (h : TyA w A n e) (hty : ∃ cs, w.heap[g]? = some (.cells cs t (0, 0))) (hne : t ≠ e) : 0 < n → ∀ ad, A = some ad → ad.block ≠ g := fun hn ad ha e2 => by
  obtain ⟨cs, fr, h1⟩ := h hn ad ha
  obtain ⟨cs', h2⟩ := hty
  rw [e2, h2] at h1
  injection h1 with h1
  injection h1 with _ h1 _
  exact hne h1
theorem LaTy.keptOff {w w' : World} {x : La} {A : Option Addr} {c : Nat} {B : Option Addr} {d : Nat} {g : Nat} {t : TypeId} (h : LaTy w x A c B d) (hg : w.grownBy w' (some g)) (hty : ∃ cs, w.heap[g]? = some (.cells cs t (0, 0))) (n1 : t ≠ 61) (n2 : t ≠ 86) : LaTy w' x A c B d := by
  have f1 := h.2.1.off hty n1
  have f2 := h.2.2.off hty n2
  refine ⟨?_, h.2.1.keep fun ad ha hs ⟨cs, fr, e⟩ => hg.block _ (heap_lt e) (fun e3 => ?_), h.2.2.keep fun ad ha hs ⟨cs, fr, e⟩ => hg.block _ (heap_lt e) (fun e3 => ?_)⟩
  · obtain ⟨A9, c9, B9, d9, e9, r1, r2, r3⟩ := h.1
    simp only [laV, Value.agg.injEq, Array.mk.injEq, List.cons.injEq, Value.slice.injEq, true_and, and_true] at e9
    obtain ⟨⟨rfl, rfl⟩, rfl, rfl⟩ := e9
    exact ⟨_, _, _, _, rfl, r1.keptOff hg (by rw [adV_len]; intro h; exact f1 (by omega)), r2.keptOff hg (by rw [pfV_len]; intro h; exact f2 (by omega)), r3⟩
  · injection e3 with e3
    obtain ⟨cs', h2⟩ := hty
    rw [e3, h2] at e
    injection e with e
    injection e with _ e _
    exact n1 e
  · injection e3 with e3
    obtain ⟨cs', h2⟩ := hty
    rw [e3, h2] at e
    injection e with e
    injection e with _ e _
    exact n2 e
/-- The database behind a store into a block of another type. -/
theorem DbAt.keptOff {w w' : World} {g b g6 : Nat} {N : Db} {t : TypeId} (h : DbAt w g b N) (hg : w.grownBy w' (some g6)) (hty : ∃ cs, w.heap[g6]? = some (.cells cs t (0, 0))) (n1 : t ≠ 61) (n2 : t ≠ 86) (hne : g6 ≠ g) : DbAt w' g b N := by
  obtain ⟨⟨M, hm, he⟩, hc⟩ := h
  have hb6 : b ≠ g6 := fun e => by
    obtain ⟨D, ⟨es, clock, hb, _⟩, _⟩ := hm
    obtain ⟨cs, h2⟩ := hty
    rw [e, h2] at hb
    cases hb
  refine ⟨⟨M, hm.kept hg (fun e => by injection e with e; exact hb6 e.symm), fun i hi => ?_⟩, ?_⟩
  · have := he i hi
    match hv : M (i : Int), hN : N i, this with
    | none, none, _ => rw [hv, hN] at this; trivial
    | some v, some x, ⟨A, c, B, d, e, hl⟩ => exact ⟨A, c, B, d, e, hl.keptOff hg hty n1 n2⟩
    | none, some _, hf => exact hf
    | some _, none, hf => exact hf
  · rw [World.cell?_of_block (a := ⟨g, 0, none⟩) (hg.block g (World.block_lt_of_cell? _ _ hc) (fun e => by injection e with e; exact hne e.symm))]
    exact hc

end Go.Proofs.Ytkmpmgojgidcgaa

namespace Go.Proofs.Ytkmpmgojgidcgaa
set_option linter.unusedVariables false
open Go.RowKit Go.Maps Go.Sort

/-- A tick at one place. -/
def rt1 (s : Rs) : Rs :=
  if s.is = true then
    if s.x.y.a = 3600 then ⟨s.x, s.l - 1, if s.l - 1 = 0 then false else true⟩
    else if s.x.y.a + 1 = 3600 then ⟨⟨purgeX s.x.y, none, 0, none, 0⟩, 60, true⟩
    else ⟨⟨{ s.x.y with a := s.x.y.a + 1 }, s.x.A, s.x.c, s.x.B, s.x.d⟩, s.l, true⟩
  else s
def rx1 (s : Rs) : Bool := s.is && (!decide (s.x.y.a = 3600) && decide (s.x.y.a + 1 = 3600))
def midR (R : Nat → Rs) (k : Nat) : Nat → Rs := fun i => if i < k then rt1 (R i) else R i
def outR (R : Nat → Rs) (k : Nat) : List Int := ((List.range k).filter fun i => rx1 (R i)).map fun (i : Nat) => (i : Int)
theorem midR_zero (R : Nat → Rs) : midR R 0 = R := by funext i; simp [midR]
theorem midR_at (R : Nat → Rs) (k : Nat) : midR R k k = R k := by simp [midR]
theorem midR_next (R : Nat → Rs) (k : Nat) : midR R (k + 1) = upR (midR R k) k (rt1 (R k)) := by
  funext i
  unfold midR upR
  by_cases h : i = k
  · subst h; simp
  · by_cases h2 : i < k
    · have h3 : i < k + 1 := by omega
      simp [h, h2, h3]
    · have h3 : ¬ i < k + 1 := by omega
      simp [h, h2, h3]
theorem outR_t {R : Nat → Rs} {k : Nat} (h : rx1 (R k) = true) : outR R (k + 1) = outR R k ++ [(k : Int)] := by simp [outR, List.range_succ, List.filter_append, h]
theorem outR_f {R : Nat → Rs} {k : Nat} (h : rx1 (R k) = false) : outR R (k + 1) = outR R k := by simp [outR, List.range_succ, List.filter_append, h]
theorem outR_len (R : Nat → Rs) (k : Nat) : (outR R k).length ≤ k := by
  unfold outR
  rw [List.length_map]
  refine Nat.le_trans (List.length_filter_le _ _) ?_
  simp
theorem rdC_congr {R R' : Nat → Rs} (h : ∀ i, i < 64 → R i = R' i) : rdC R = rdC R' :=
  rdC_ext (rdC_len R) (fun i hi => by rw [rdC_is R hi, h i hi]) (fun i hi j hj => by rw [rdC_at R hi hj, h i hi])
theorem midR_end (R : Nat → Rs) : rdC (midR R 64) = rdC (fun i => rt1 (R i)) := rdC_congr fun i hi => by simp [midR, hi]
theorem purge_ok (w : World) (x : La) : LxOk w ⟨purgeX x, none, 0, none, 0⟩ :=
  ⟨none, 0, none, 0, rfl, Rd.nil _ _, Rd.nil _ _, by simp [purgeX], by simp [maxLen], by simp [purgeX], by simp [maxLen], by simp [purgeX]⟩
theorem rt1_ok {w : World} {s : Rs} (h : LxOk w s.x) : LxOk w (rt1 s).x := by
  unfold rt1
  split
  · split
    · exact h
    · split
      · exact purge_ok w _
      · unfold LxOk at *
        exact h.renum s.x.y.o s.x.y.s (s.x.y.a + 1) s.x.y.ov
  · exact h
theorem RdOk.tick {w : World} {R : Nat → Rs} (h : RdOk w R) : RdOk w (fun i => rt1 (R i)) := fun i hi => rt1_ok (h i hi)

/-- Memory within the loop: the reference's database in the first block of the call, the result's cell behind it, the list. -/
structure RTk (w wr : World) (R' : Nat → Rs) (v : Value) (os : List Int) : Prop where
  sz : w.heap.size + 2 ≤ wr.heap.size
  own : wr.ownsRow (w.heap.size + 2) 3 1 v os.length (os.map encZ)
  st : St w wr [(w.heap.size + 1, rdC (fun _ => rsZ)), (w.heap.size, rdC R')] []
section
variable {w wr w' : World} {R' : Nat → Rs} {v : Value} {os : List Int}
theorem RTk.set (h : RTk w wr R' v os) (j : Nat) (u : Value) (R2 : Nat → Rs) (hj : j < 512) (e : (rdC R').set j u = rdC R2) : RTk w (wr.setCell ⟨w.heap.size, j, none⟩ u) R2 v os :=
  ⟨by have := h.sz; simpa using this, own_far h.own (p := ⟨w.heap.size, j, none⟩) (fun b e => by have := h.own.lt b e; simp only; omega) u,
   h.st.set 1 j u rfl (by rw [rdC_len]; omega) (Nat.le_refl _) (by simp) _ (by rw [e]; rfl)⟩
theorem RTk.set_at (h : RTk w wr R' v os) {k : Nat} (hk : k < 64) {j : Nat} (hj : j < 7) (u : Value) (s t : Rs) (ht : R' k = t) (hs : s.is = t.is) (hv : (hdL t).set j u = hdL s) : RTk w (wr.setCell ⟨w.heap.size, 64 + k * 7 + j, none⟩ u) (upR R' k s) v os :=
  h.set _ u _ (by omega) (rdC_set_at' R' hk hj u s t ht hs hv)
theorem RTk.below (h : RTk w wr R' v os) (hb : Below wr.heap.size wr w') : RTk w w' R' v os := ⟨Nat.le_trans h.sz hb.size, own_below h.own hb, h.st.call hb⟩
theorem RTk.set7 (h : RTk w wr R' v os) {k : Nat} (hk : k < 64) (s t : Rs) (ht : R' k = t) (hs : s.is = t.is) :
    RTk w (((((((wr.setCell ⟨w.heap.size, 64 + k * 7, none⟩ (.int .i64 s.x.y.o)).setCell ⟨w.heap.size, 64 + k * 7 + 1, none⟩ (.int .i64 s.x.y.s)).setCell ⟨w.heap.size, 64 + k * 7 + 2, none⟩ (.int .i64 s.x.y.a)).setCell ⟨w.heap.size, 64 + k * 7 + 3, none⟩ (.bool s.x.y.ov)).setCell ⟨w.heap.size, 64 + k * 7 + 4, none⟩ (.slice s.x.A s.x.y.adj.length s.x.c)).setCell ⟨w.heap.size, 64 + k * 7 + 5, none⟩ (.slice s.x.B s.x.y.pre.length s.x.d)).setCell ⟨w.heap.size, 64 + k * 7 + 6, none⟩ (.int .i64 s.l)) (upR R' k s) v os := by
  refine ⟨by have := h.sz; simpa using this, ?_, h.st.set7 (i := 1) rfl (by simp) (Nat.le_refl _) hk s (by rw [ht]; exact hs) _ rfl⟩
  have hb : ∀ b, v.ownBlock = some b → b ≠ w.heap.size := fun b e => by have := h.own.lt b e; omega
  exact own_far (own_far (own_far (own_far (own_far (own_far (own_far h.own (p := ⟨w.heap.size, _, none⟩) hb _) (p := ⟨w.heap.size, _, none⟩) hb _) (p := ⟨w.heap.size, _, none⟩) hb _) (p := ⟨w.heap.size, _, none⟩) hb _) (p := ⟨w.heap.size, _, none⟩) hb _) (p := ⟨w.heap.size, _, none⟩) hb _) (p := ⟨w.heap.size, _, none⟩) hb _
theorem RTk.c (h : RTk w wr R' v os) (j : Nat) {u : Value} (e : (rdC R')[j]? = some u) : wr.cell? ⟨w.heap.size, j, none⟩ = some u := h.st.c 1 j rfl e
theorem RTk.f (h : RTk w wr R' v os) {j : Nat} (hj : j < 512) : wr.frozen? ⟨w.heap.size, j, none⟩ = false := h.st.f 1 j rfl (List.getElem?_eq_getElem (by rw [rdC_len]; exact hj))
theorem own_farAll {base : Nat} {e : TypeId} {size : Nat} {v : Value} {n : Nat} {xs : List Value} (g : Nat) (hg : ∀ b, v.ownBlock = some b → b ≠ g) : ∀ (vs : List Value) (o : Nat) (w : World), w.ownsRow base e size v n xs → (w.setCells g o vs).ownsRow base e size v n xs
  | [], _, _, h => h
  | u :: r, o, w, h => by
    rw [World.setCells]
    exact own_farAll g hg r (o + 1) _ (own_far h (p := ⟨g, o, none⟩) hg u)
theorem RTk.app (h : RTk w wr R' v os) {os' : List Int} {v' : Value} (ho : w'.ownsRow (w.heap.size + 2) 3 1 v' os'.length (os'.map encZ)) (hb : Below (w.heap.size + 2) wr w') : RTk w w' R' v' os' :=
  ⟨Nat.le_trans h.sz hb.size, ho, h.st.belowB hb (by omega) (by simp)⟩
theorem RTk.at (h : RTk w wr R' v os) {k : Nat} (hk : k < 64) {j : Nat} (hj : j < 7) {u : Value} (t : Rs) (ht : R' k = t) (e : (hdL t)[j]? = some u) : wr.cell? ⟨w.heap.size, 64 + k * 7 + j, none⟩ = some u := h.c _ (by rw [rdC_at R' hk hj, ht]; exact e)
end

def RTickPost (w : World) (R : Nat → Rs) (e : Ending) (w' : World) : Prop :=
  ∃ A c, e = .returned (.tuple #[.agg (rdC (fun i => rt1 (R i))).toArray, .slice A (outR R 64).length c]) ∧ w'.ownsRow w.heap.size 3 1 (.slice A (outR R 64).length c) (outR R 64).length ((outR R 64).map encZ) ∧ Below w.heap.size w w'

set_option maxRecDepth 100000 in
set_option maxHeartbeats 6400000 in
theorem rtick_any (w : World) (R : Nat → Rs) (hR : RdOk w R) (hok : DbOk (dbOf R)) : Calls Try.prog 68 #[.agg (rdC R).toArray] w (RTickPost w R) := by
  have T0 : RTk w ((w.alloc (.cells (rdC R).toArray 46)).alloc (.cells Try.zeroCells46 46)) (midR R 0) (.slice none (outR R 0).length 0) (outR R 0) :=
    ⟨by simp, World.ownsRow_nil _ _ _ _, ((St.start w).new' (rdC R).toArray 46 w.heap.size (rdC (midR R 0)) rfl (by rw [midR_zero])).new' Try.zeroCells46 46 (w.heap.size + 1) (rdC (fun _ => rsZ)) (by simp) (by rw [← rdC_zero])⟩
  have hpost : Hid (∀ A c w', w'.ownsRow (w.heap.size + 2) 3 1 (.slice A (outR R 64).length c) (outR R 64).length ((outR R 64).map encZ) → Below w.heap.size w w' → RTickPost w R (.returned (.tuple #[.agg (rdC (midR R 64)).toArray, .slice A (outR R 64).length c])) w') := fun A c w' h1 h2 => ⟨A, c, by rw [midR_end], own_mono h1 (by omega), h2⟩
  replace hok := Lib.hid hok
  go_enter Try.func68, Try.ntmps68
  go_upto_region 1 with fail
  generalize World.alloc (World.alloc w _) _ = w1 at *
  replace T0 := Lib.hid T0
  go_wp2_with fail
  go_loopw [4, 5] (fun v4 v5 wr => ∃ (k : Nat) (A : Option Addr) (c : Nat), v5 = .int .i64 k ∧ v4 = .slice A (outR R k).length c ∧ k ≤ 64 ∧ Hid (RTk w wr (midR R k) (.slice A (outR R k).length c) (outR R k))) (fun _ v5 _ => 64 - (intOf v5).toNat)
  case atStart => exact ⟨0, none, 0, rfl, rfl, by omega, T0⟩
  case round =>
    clear T0
    obtain ⟨k, A, c, rfl, rfl, hk, hT⟩ := hrel
    by_cases hkn : k < 64
    · have T := hT.out
      clear hT
      have hlen := outR_len R k
      have hnext := midR_next R k
      have hat0 := midR_at R k
      have hdk : (R k).is = true → LaValid (R k).x.y ∧ (R k).x.y.o = (k : Int) ∧ 1 ≤ (R k).l ∧ (R k).l ≤ 60 := fun h => hok.out k ⟨(R k).x.y, (R k).l⟩ (by unfold dbOf; rw [if_pos ⟨hkn, h⟩])
      have hot := @outR_t R k
      have hof := @outR_f R k
      generalize hRk : R k = s at hnext hdk hot hof hat0
      obtain ⟨⟨y, A9, c9, B9, d9⟩, lf, is⟩ := s
      simp only at hdk
      have c0 := T.c k (rdC_is (midR R k) hkn)
      rw [hat0] at c0
      simp only at c0
      cases is with
      | false =>
        rw [show rt1 ⟨⟨y, A9, c9, B9, d9⟩, lf, false⟩ = ⟨⟨y, A9, c9, B9, d9⟩, lf, false⟩ from rfl] at hnext
        have e1 : midR R (k + 1) = midR R k := by
          rw [hnext, ← hat0]; funext i; unfold upR; split
          · rename_i h; rw [h]
          · rfl
        have e2 := hof rfl
        rw [← e1, ← e2] at T
        rw [← e2]
        replace T := Lib.hid T
        clear hnext hot hof hdk e1 e2 hRk hat0 hlen
        go_wp2_with fail
        go_round
        case rel => exact ⟨k + 1, A, c, by go_num, rfl, by omega, T⟩
        case measure => simp [intOf]; omega
      | true =>
        obtain ⟨hva, -, hl1, hl2⟩ := hdk rfl
        have ha := hva.2.2.1
        clear hdk hva
        have x2 := T.at hkn (j := 2) (by omega) _ hat0 rfl
        by_cases hag : y.a = 3600
        · have hr1 : rt1 ⟨⟨y, A9, c9, B9, d9⟩, lf, true⟩ = ⟨⟨y, A9, c9, B9, d9⟩, lf - 1, if lf - 1 = 0 then false else true⟩ := by unfold rt1; simp [hag]
          have e2 := hof (by simp [rx1, hag])
          have e0 : (y.a == 3600) = true := by simp [hag]
          rw [hr1] at hnext
          rw [← e2] at T
          rw [← e2]
          have x6 := T.at hkn (j := 6) (by omega) _ hat0 rfl
          have f6 := T.f (j := 64 + k * 7 + 6) (by omega)
          have T2 := T.set_at hkn (j := 6) (by omega) (.int .i64 (lf - 1)) ⟨⟨y, A9, c9, B9, d9⟩, lf - 1, true⟩ _ hat0 rfl rfl
          clear T hr1 e2 hot hof hlen hRk hat0
          go_upto_region 8 with fail
          clear x2 x6 f6 c0 e0
          generalize World.setCell _ _ _ = w2 at *
          have x6 := T2.at hkn (j := 6) (by omega) _ (upR_same _ _ _) rfl
          by_cases hl0 : lf - 1 = 0
          · have g0 := T2.f (j := k) (by omega)
            have c0 := T2.c k (rdC_is _ hkn)
            have T3 := T2.set k (.bool false) (midR R (k + 1)) (by omega) (by rw [rdC_set_is _ hkn, upR_upR, upR_same, hnext, if_pos hl0])
            have e3 : (lf - 1 == 0) = true := by simp [hl0]
            clear hnext T2 hl0
            go_wp2_with fail
            generalize World.setCell _ _ _ = w3 at *
            replace T3 := Lib.hid T3
            go_round
            case rel => exact ⟨k + 1, A, c, by go_num, rfl, by omega, T3⟩
            case measure => simp [intOf]; omega
          · rw [if_neg hl0] at hnext
            rw [← hnext] at T2
            have e3 : (lf - 1 == 0) = false := by simp [hl0]
            clear hnext hl0
            replace T2 := Lib.hid T2
            go_wp2_with fail
            go_round
            case rel => exact ⟨k + 1, A, c, by go_num, rfl, by omega, T2⟩
            case measure => simp [intOf]; omega
        · have e0 : (y.a == 3600) = false := by simp [hag]
          have f2 := T.f (j := 64 + k * 7 + 2) (by omega)
          have T2 := T.set_at hkn (j := 2) (by omega) (.int .i64 (y.a + 1)) ⟨⟨{ y with a := y.a + 1 }, A9, c9, B9, d9⟩, lf, true⟩ _ hat0 rfl rfl
          have hRk2 := hRk
          clear T hRk hat0
          go_upto_region 11 with fail
          clear x2 f2 c0 e0
          generalize World.setCell _ _ _ = w2 at *
          have x2 := T2.at hkn (j := 2) (by omega) _ (upR_same _ _ _) rfl
          by_cases hl0 : y.a + 1 = 3600
          · have hr1 : rt1 ⟨⟨y, A9, c9, B9, d9⟩, lf, true⟩ = ⟨⟨purgeX y, none, 0, none, 0⟩, 60, true⟩ := by unfold rt1; simp [hag, hl0]
            have e2 := hot (by simp [rx1, hl0]; omega)
            have e3 : (y.a + 1 == 3600) = true := by simp [hl0]
            rw [hr1] at hnext
            have hla : LaAt w2 (laV y.o y.s (y.a + 1) y.ov A9 y.adj.length c9 B9 y.pre.length d9) { y with a := y.a + 1 } := by
              have := hR k hkn
              rw [hRk2] at this
              unfold LxOk at this
              exact (this.renum y.o y.s (y.a + 1) y.ov).below T2.st.b
            have PG := rpurge_any w2 _ _ hla
            have x0 := T2.at hkn (j := 0) (by omega) _ (upR_same _ _ _) rfl
            have x1 := T2.at hkn (j := 1) (by omega) _ (upR_same _ _ _) rfl
            have x3 := T2.at hkn (j := 3) (by omega) _ (upR_same _ _ _) rfl
            have x4 := T2.at hkn (j := 4) (by omega) _ (upR_same _ _ _) rfl
            have x5 := T2.at hkn (j := 5) (by omega) _ (upR_same _ _ _) rfl
            simp only [Nat.add_zero] at x0 x1 x3 x4 x5 PG
            replace PG := Lib.hid PG
            clear hl0 hr1 hla hag hot hof
            go_wp2_with fail
            (with_reducible refine (PG.out).mono ?_)
            rintro e w3 ⟨rfl, hb⟩
            replace T2 := T2.below hb
            clear x0 x1 x2 x3 x4 x5 PG hb e3
            have T3 := T2.set7 hkn ⟨⟨purgeX y, none, 0, none, 0⟩, 60, true⟩ _ (upR_same _ _ _) rfl
            rw [upR_upR, ← hnext] at T3
            have x0 := T2.at hkn (j := 0) (by omega) _ (upR_same _ _ _) rfl
            have x1 := T2.at hkn (j := 1) (by omega) _ (upR_same _ _ _) rfl
            have x2 := T2.at hkn (j := 2) (by omega) _ (upR_same _ _ _) rfl
            have x3 := T2.at hkn (j := 3) (by omega) _ (upR_same _ _ _) rfl
            have x4 := T2.at hkn (j := 4) (by omega) _ (upR_same _ _ _) rfl
            have x5 := T2.at hkn (j := 5) (by omega) _ (upR_same _ _ _) rfl
            have x6 := T2.at hkn (j := 6) (by omega) _ (upR_same _ _ _) rfl
            simp only [Nat.add_zero] at x0
            have f0 := T2.f (j := 64 + k * 7) (by omega)
            have f1 := T2.f (j := 64 + k * 7 + 1) (by omega)
            have f2 := T2.f (j := 64 + k * 7 + 2) (by omega)
            have f3 := T2.f (j := 64 + k * 7 + 3) (by omega)
            have f4 := T2.f (j := 64 + k * 7 + 4) (by omega)
            have f5 := T2.f (j := 64 + k * 7 + 5) (by omega)
            have f6 := T2.f (j := 64 + k * 7 + 6) (by omega)
            simp only [purgeX, List.length_nil] at T3
            clear hnext T2
            go_upto_region 13 with fail
            clear x0 x1 x2 x3 x4 x5 x6 f0 f1 f2 f3 f4 f5 f6
            generalize World.setCell _ _ _ = w4 at *
            have T4 := T3.below (below_new' w4 (.cells #[.int .i64 (k : Int)] 3))
            have rd0 := Rd.lit w4 #[.int .i64 (k : Int)] 3
            have o4 := T4.own
            have hsz4 := T4.sz
            clear T3
            have hl9 : (outR R (k + 1)).length = (outR R k).length + 1 := by rw [e2]; simp
            generalize hn : (outR R k).length = n at *
            replace hn := Lib.hid hn
            replace hl9 := Lib.hid hl9
            replace e2 := Lib.hid e2
            go_wp2_with (at_builtin; refine wpList_appB rfl intT (.tmp 68) (.tmp 70) rfl (w.heap.size + 2) rfl o4 (m := 1) rfl (by simp) rd0 (by simp [Value.oneCell']) (by simp only [maxLen]; omega) (by omega) hsz4 (n + 1) ((outR R k ++ [(k : Int)]).map encZ) rfl (by simp) ?_; intro v6 w6 o6 hbel6 hg6 hv6)
            rw [← e2.out, ← hl9.out] at o6
            have T5 := T4.app o6 hbel6
            obtain ⟨A7, c7, rfl, -⟩ := own_rd o6
            replace T5 := Lib.hid T5
            clear T4 o4 rd0 o6 hbel6 hg6 hv6 hsz4
            go_wp2_with fail
            go_round
            case rel => exact ⟨k + 1, A7, c7, by go_num, rfl, by omega, T5⟩
            case measure => simp [intOf]; omega
          · have hr1 : rt1 ⟨⟨y, A9, c9, B9, d9⟩, lf, true⟩ = ⟨⟨{ y with a := y.a + 1 }, A9, c9, B9, d9⟩, lf, true⟩ := by unfold rt1; simp [hag, hl0]
            have e2 := hof (by simp [rx1, hl0])
            have e3 : (y.a + 1 == 3600) = false := by simp [hl0]
            rw [hr1] at hnext
            rw [← hnext, ← e2] at T2
            rw [← e2]
            clear hnext hl0 hr1 e2 hot hof hlen hag
            replace T2 := Lib.hid T2
            go_wp2_with fail
            go_round
            case rel => exact ⟨k + 1, A, c, by go_num, rfl, by omega, T2⟩
            case measure => simp [intOf]; omega
    · obtain rfl : k = 64 := by omega
      have T := hT.out
      clear hT
      go_wp2_with (first | (refine wpList_loadR rfl (.tmp 1) rfl rfl (T.st.box 1 rfl) ?_) | (refine wpList_storeR rfl (.tmp 2) (.tmp 72) rfl rfl rfl (T.st.box 0 rfl) ?_))
      have T9 := T.st.setAllR 0 (midR R 64) rfl (by omega) (by simp) _ rfl
      have ho := own_farAll (w.heap.size + 1) (fun b e => by have := T.own.lt b e; omega) (rdC (midR R 64)) 0 wr T.own
      exact bodyPost_ret (v := .tuple #[.agg (rdC (midR R 64)).toArray, .slice A (outR R 64).length c]) (resR rfl (T9.box 0 rfl) rfl rfl) rfl (hpost.out _ _ _ ho T9.b)

end Go.Proofs.Ytkmpmgojgidcgaa

namespace Go.Proofs.Ytkmpmgojgidcgaa
set_option linter.unusedVariables false
open Go.RowKit Go.Maps Go.Sort

def rtN : Nat → Rs → Rs
  | 0, s => s
  | n + 1, s => rt1 (rtN n s)
def rxN : Nat → Rs → Bool
  | 0, _ => false
  | n + 1, s => rxN n s || rx1 (rtN n s)
/-- A place and what is held there. -/
def Tr (s : Rs) : Option Hd → Prop
  | none => s.is = false
  | some h => s.is = true ∧ s.x.y = h.x ∧ s.l = h.l
theorem purgeX_a (x : La) (a : Int) : purgeX { x with a := a } = purgeX x := rfl
theorem rtN_tick {s : Rs} (his : s.is = true) (ha0 : 0 ≤ s.x.y.a) (ha : s.x.y.a ≤ 3600) (hl0 : 1 ≤ s.l) (hl : s.l ≤ 60) : ∀ n : Nat, Tr (rtN n s) (tickH n ⟨s.x.y, s.l⟩).1 ∧ rxN n s = (tickH n ⟨s.x.y, s.l⟩).2
  | 0 => by
    unfold tickH rtN rxN
    by_cases h : s.x.y.a < 3600
    · simp only [if_pos h, show ((0 : Nat) : Int) < 3600 - s.x.y.a from by omega, if_true]
      exact ⟨⟨his, by simp, rfl⟩, trivial⟩
    · simp only [if_neg h]
      rw [if_neg (by omega)]
      exact ⟨⟨his, by simp, by simp⟩, by simp⟩
  | n + 1 => by
    obtain ⟨h1, h2⟩ := rtN_tick his ha0 ha hl0 hl n
    show Tr (rt1 (rtN n s)) _ ∧ (rxN n s || rx1 (rtN n s)) = _
    rw [h2]
    obtain ⟨y, l⟩ : ∃ p : La × Int, p = (s.x.y, s.l) := ⟨_, rfl⟩
    generalize rtN n s = t at *
    unfold tickH at h1 h2 ⊢
    simp only at *
    by_cases h : s.x.y.a < 3600
    · simp only [if_pos h] at h1 h2 ⊢
      by_cases hn : (n : Int) < 3600 - s.x.y.a
      · simp only [if_pos hn] at h1 h2 ⊢
        obtain ⟨k1, k2, k3⟩ := h1
        have ka : t.x.y.a = s.x.y.a + n := by rw [k2]
        by_cases hn1 : ((n + 1 : Nat) : Int) < 3600 - s.x.y.a
        · simp only [if_pos hn1]
          unfold rt1 rx1
          rw [if_pos k1, if_neg (by omega), if_neg (by omega)]
          refine ⟨⟨rfl, ?_, k3⟩, ?_⟩
          · simp only [k2]; congr 1; omega
          · have : ¬ t.x.y.a + 1 = 3600 := by omega
            simp [this]
        · simp only [if_neg hn1]
          unfold rt1 rx1
          rw [if_pos k1, if_neg (by omega), if_pos (by omega), if_neg (by omega)]
          refine ⟨⟨rfl, ?_, ?_⟩, ?_⟩
          · simp only [k2]; rfl
          · simp only; omega
          · have e1 : t.x.y.a + 1 = 3600 := by omega
            have e2 : ¬ t.x.y.a = 3600 := by omega
            simp [k1, e1, e2]
      · simp only [if_neg hn] at h1 h2 ⊢
        rw [if_neg (by omega)]
        simp only [Bool.true_or, and_true]
        by_cases hr : 60 ≤ (n : Int) - (3600 - s.x.y.a)
        · rw [if_pos hr] at h1
          rw [if_pos (by omega)]
          have k1 : t.is = false := h1
          show (rt1 t).is = false
          unfold rt1; rw [if_neg (by simp [k1])]; exact k1
        · rw [if_neg hr] at h1
          obtain ⟨k1, k2, k3⟩ := h1
          have ka : t.x.y.a = 3600 := by rw [k2]; rfl
          simp only at k3
          unfold rt1
          rw [if_pos k1, if_pos ka]
          by_cases hr2 : 60 ≤ ((n + 1 : Nat) : Int) - (3600 - s.x.y.a)
          · rw [if_pos hr2, if_pos (by omega)]; rfl
          · rw [if_neg hr2, if_neg (by omega)]
            exact ⟨rfl, k2, by simp only; omega⟩
    · simp only [if_neg h] at h1 h2 ⊢
      by_cases hr : s.l ≤ (n : Int)
      · rw [if_pos hr] at h1
        rw [if_pos (by omega)]
        have k1 : t.is = false := h1
        refine ⟨?_, by simp [rx1, k1]⟩
        show (rt1 t).is = false
        unfold rt1; rw [if_neg (by simp [k1])]; exact k1
      · rw [if_neg hr] at h1
        obtain ⟨k1, k2, k3⟩ := h1
        have ka : t.x.y.a = 3600 := by rw [k2]; simp only; omega
        simp only at k3
        refine ⟨?_, by simp [rx1, ka]⟩
        unfold rt1
        rw [if_pos k1, if_pos ka]
        by_cases hr2 : s.l ≤ ((n + 1 : Nat) : Int)
        · rw [if_pos hr2, if_pos (by omega)]; rfl
        · rw [if_neg hr2, if_neg (by omega)]
          exact ⟨rfl, k2, by simp only; omega⟩
theorem rtN_gone {s : Rs} (h : s.is = false) : ∀ n, rtN n s = s ∧ rxN n s = false
  | 0 => ⟨rfl, rfl⟩
  | n + 1 => by
    obtain ⟨h1, h2⟩ := rtN_gone h n
    show rt1 (rtN n s) = s ∧ (rxN n s || rx1 (rtN n s)) = false
    rw [h1, h2]
    exact ⟨by unfold rt1; rw [if_neg (by simp [h])], by simp [rx1, h]⟩
theorem rtN_db {R : Nat → Rs} (hok : DbOk (dbOf R)) (n : Nat) : dbOf (fun i => rtN n (R i)) = tickN n (dbOf R) ∧ ∀ i, i < 64 → rxN n (R i) = expH n (dbOf R i) := by
  have key : ∀ i, i < 64 → ((R i).is = true → Tr (rtN n (R i)) (tickH n ⟨(R i).x.y, (R i).l⟩).1 ∧ rxN n (R i) = (tickH n ⟨(R i).x.y, (R i).l⟩).2) := fun i hi h => by
    have := hok i ⟨(R i).x.y, (R i).l⟩ (by unfold dbOf; rw [if_pos ⟨hi, h⟩])
    exact rtN_tick h this.1.2.2.1.1 this.1.2.2.1.2 this.2.2.1 this.2.2.2 n
  constructor
  · funext i
    unfold tickN
    by_cases hi : i < 64
    · by_cases h : (R i).is = true
      · obtain ⟨h1, h2⟩ := key i hi h
        have e : dbOf R i = some ⟨(R i).x.y, (R i).l⟩ := by unfold dbOf; rw [if_pos ⟨hi, h⟩]
        rw [e]
        simp only
        unfold dbOf
        cases ht : (tickH n ⟨(R i).x.y, (R i).l⟩).1 with
        | none => rw [ht] at h1; have : (rtN n (R i)).is = false := h1; rw [if_neg (by simp [this])]
        | some x => rw [ht] at h1; obtain ⟨k1, k2, k3⟩ := h1; rw [if_pos ⟨hi, k1⟩, k2, k3]
      · have h' : (R i).is = false := by simpa using h
        have e : dbOf R i = none := by unfold dbOf; rw [if_neg (by simp [h'])]
        rw [e]
        unfold dbOf
        rw [if_neg (by show ¬ (i < 64 ∧ (rtN n (R i)).is = true); rw [(rtN_gone h' n).1]; simp [h'])]
    · have e : dbOf R i = none := by unfold dbOf; rw [if_neg (by simp [hi])]
      rw [e]
      unfold dbOf
      rw [if_neg (by simp [hi])]
  · intro i hi
    by_cases h : (R i).is = true
    · have e : dbOf R i = some ⟨(R i).x.y, (R i).l⟩ := by unfold dbOf; rw [if_pos ⟨hi, h⟩]
      rw [e, (key i hi h).2]; rfl
    · have h' : (R i).is = false := by simpa using h
      have e : dbOf R i = none := by unfold dbOf; rw [if_neg (by simp [h'])]
      rw [e, (rtN_gone h' n).2]; rfl
def exL (f : Nat → Bool) : List Int := ((List.range 64).filter f).map fun (i : Nat) => (i : Int)
theorem exL_tick {R : Nat → Rs} (hok : DbOk (dbOf R)) (n : Nat) : exL (fun i => rxN n (R i)) = tickL n (dbOf R) := by
  unfold exL tickL orgs
  rw [List.filter_filter, List.filter_map]
  congr 1
  refine List.filter_congr fun i hi => ?_
  have h := (rtN_db hok n).2 i (List.mem_range.1 hi)
  simp only [Function.comp, Int.toNat_natCast]
  rw [h]
  cases dbOf R i with
  | none => rfl
  | some x => simp
/-! ### What holds of what is held, behind ticks -/
theorem tickH_ok {n : Int} (hn : 0 ≤ n) {h h' : Hd} (hv : LaValid h.x) (h1 : 1 ≤ h.l) (h2 : h.l ≤ 60) (e : (tickH n h).1 = some h') : LaValid h'.x ∧ h'.x.o = h.x.o ∧ 1 ≤ h'.l ∧ h'.l ≤ 60 := by
  unfold tickH at e
  obtain ⟨k1, k2, k3, k4, k5, k6, k7, k8⟩ := id hv
  split at e
  · split at e
    · injection e with e; subst e
      exact ⟨⟨k1, k2, ⟨by simp only; omega, by simp only; omega⟩, k4, k5, fun h => by simp only at h; omega, k7, k8⟩, rfl, h1, h2⟩
    · split at e
      · cases e
      · injection e with e; subst e
        exact ⟨bare_purge h.x.o h.x.s k1.1 k1.2 k2.1 k2.2, rfl, by simp only; omega, by simp only; omega⟩
  · split at e
    · cases e
    · injection e with e; subst e
      exact ⟨hv, rfl, by simp only; omega, by simp only; omega⟩
theorem tick_ok {N : Db} (h : DbOk N) {n : Int} (hn : 0 ≤ n) : DbOk (tickN n N) := fun i x e => by
  unfold tickN at e
  cases hN : N i with
  | none => rw [hN] at e; cases e
  | some y =>
    rw [hN] at e
    obtain ⟨h1, h2, h3, h4⟩ := h i y hN
    obtain ⟨k1, k2, k3, k4⟩ := tickH_ok hn h1 h3 h4 e
    exact ⟨k1, by rw [k2, h2], k3, k4⟩
theorem RdOk.ticks {w : World} {R : Nat → Rs} (h : RdOk w R) : ∀ n, RdOk w (fun i => rtN n (R i))
  | 0 => h
  | n + 1 => RdOk.tick (h.ticks n)
theorem inst_ok {N : Db} (h : DbOk N) {a : La} (ha : vB a = true → LaValid a) : DbOk (instN N a) := fun i x e => by
  unfold instN at e
  split at e
  · rename_i hc
    have hv := ha hc.1
    simp only at e
    split at e
    · rename_i hi
      injection e with e; subst e
      have := hv.1
      exact ⟨hv, by simp only; omega, by simp, by simp⟩
    · exact h i x e
  · exact h i x e

end Go.Proofs.Ytkmpmgojgidcgaa

namespace Go.Proofs.Ytkmpmgojgidcgaa
set_option linter.unusedVariables false
open Go.RowKit Go.Maps Go.Sort

def exC (f : Nat → Bool) : List Value := (List.range 64).map fun i => .bool (f i)
theorem exC_len (f : Nat → Bool) : (exC f).length = 64 := by simp [exC]
theorem exC_at (f : Nat → Bool) {i : Nat} (hi : i < 64) : (exC f)[i]? = some (.bool (f i)) := by simp [exC, hi]
theorem exC_congr {f g : Nat → Bool} (h : ∀ i, i < 64 → f i = g i) : exC f = exC g := by
  unfold exC
  refine List.map_congr_left fun i hi => ?_
  rw [h i (List.mem_range.1 hi)]
theorem exC_set (f : Nat → Bool) {i : Nat} (hi : i < 64) : (exC f).set i (.bool true) = exC (fun j => f j || decide (j = i)) := by
  apply List.ext_getElem?
  intro n
  by_cases hn : n < 64
  · rw [exC_at _ hn]
    by_cases e : i = n
    · subst e; rw [List.getElem?_set_self (by rw [exC_len]; exact hi)]; simp
    · rw [List.getElem?_set_ne e, exC_at _ hn]
      have : ¬ n = i := fun h => e h.symm
      simp [this]
  · rw [List.getElem?_eq_none (by rw [List.length_set, exC_len]; omega), List.getElem?_eq_none (by rw [exC_len]; omega)]
theorem exC_zero : exC (fun _ => false) = [.bool false, .bool false, .bool false, .bool false, .bool false, .bool false, .bool false, .bool false, .bool false, .bool false, .bool false, .bool false, .bool false, .bool false, .bool false, .bool false, .bool false, .bool false, .bool false, .bool false, .bool false, .bool false, .bool false, .bool false, .bool false, .bool false, .bool false, .bool false, .bool false, .bool false, .bool false, .bool false, .bool false, .bool false, .bool false, .bool false, .bool false, .bool false, .bool false, .bool false, .bool false, .bool false, .bool false, .bool false, .bool false, .bool false, .bool false, .bool false, .bool false, .bool false, .bool false, .bool false, .bool false, .bool false, .bool false, .bool false, .bool false, .bool false, .bool false, .bool false, .bool false, .bool false, .bool false, .bool false] := by rfl
def exK (f : Nat → Bool) (k : Nat) : List Int := ((List.range k).filter f).map fun (i : Nat) => (i : Int)
theorem exK_t {f : Nat → Bool} {k : Nat} (h : f k = true) : exK f (k + 1) = exK f k ++ [(k : Int)] := by simp [exK, List.range_succ, List.filter_append, h]
theorem exK_f {f : Nat → Bool} {k : Nat} (h : f k = false) : exK f (k + 1) = exK f k := by simp [exK, List.range_succ, List.filter_append, h]
theorem exK_len (f : Nat → Bool) (k : Nat) : (exK f k).length ≤ k := by
  unfold exK
  rw [List.length_map]
  refine Nat.le_trans (List.length_filter_le _ _) ?_
  simp
theorem outR_mem {R : Nat → Rs} {x : Int} (h : x ∈ outR R 64) : ∃ q : Nat, x = (q : Int) ∧ q < 64 := by
  obtain ⟨q, hq, rfl⟩ := List.mem_map.1 h
  exact ⟨q, rfl, List.mem_range.1 (List.mem_filter.1 hq).1⟩
theorem outR_iff {R : Nat → Rs} {i : Nat} (hi : i < 64) : (i : Int) ∈ outR R 64 ↔ rx1 (R i) = true := by
  unfold outR
  rw [List.mem_map]
  constructor
  · rintro ⟨q, hq, e⟩
    obtain rfl : q = i := by omega
    exact (List.mem_filter.1 hq).2
  · intro h
    exact ⟨i, List.mem_filter.2 ⟨List.mem_range.2 hi, h⟩, rfl⟩
def fJ (f : Nat → Bool) (L : List Int) (j : Nat) : Nat → Bool := fun i => f i || decide ((i : Int) ∈ L.take j)
theorem fJ_next {f : Nat → Bool} {L : List Int} {j : Nat} (hj : j < L.length) {q : Nat} (hq : L[j] = (q : Int)) : (fun i => fJ f L j i || decide (i = q)) = fJ f L (j + 1) := by
  funext i
  unfold fJ
  rw [List.take_succ_eq_append_getElem hj, hq, Bool.or_assoc]
  congr 1
  rw [Bool.eq_iff_iff]
  simp only [Bool.or_eq_true, decide_eq_true_iff, List.mem_append, List.mem_singleton]
  constructor
  · rintro (h | h)
    · exact .inl h
    · right; omega
  · rintro (h | h)
    · exact .inl h
    · right; omega

def RTicksPost (w : World) (R : Nat → Rs) (m : Nat) (e : Ending) (w' : World) : Prop :=
  ∃ A c, e = .returned (.tuple #[.agg (rdC (fun i => rtN m (R i))).toArray, .slice A (tickL m (dbOf R)).length c]) ∧ w'.ownsRow w.heap.size 3 1 (.slice A (tickL m (dbOf R)).length c) (tickL m (dbOf R)).length ((tickL m (dbOf R)).map encZ) ∧ Below w.heap.size w w'

set_option maxRecDepth 100000 in
set_option maxHeartbeats 6400000 in
theorem rticks_any (w : World) (R : Nat → Rs) (hR : RdOk w R) (hok : DbOk (dbOf R)) (z : Int) (m : Nat) (hm : m = z.toNat) (hm4 : m ≤ 4000) : Calls Try.prog 40 #[.agg (rdC R).toArray, .int .i64 z] w (RTicksPost w R m) := by
  have S := (((St.start w).new' (rdC R).toArray 46 w.heap.size (rdC (fun i => rtN 0 (R i))) rfl rfl).new' Try.zeroCells46 46 (w.heap.size + 1) (rdC (fun _ => rsZ)) (by simp) (by rw [← rdC_zero])).new' (exC (fun _ => false)).toArray 41 (w.heap.size + 1 + 1) (exC (fun i => rxN 0 (R i))) (by simp) rfl
  rw [exC_zero] at S
  have hpost : Hid (∀ A c w', w'.ownsRow (w.heap.size + 3) 3 1 (.slice A (exK (fun i => rxN m (R i)) 64).length c) (exK (fun i => rxN m (R i)) 64).length ((exK (fun i => rxN m (R i)) 64).map encZ) → Below w.heap.size w w' → RTicksPost w R m (.returned (.tuple #[.agg (rdC (fun i => rtN m (R i))).toArray, .slice A (exK (fun i => rxN m (R i)) 64).length c])) w') := fun A c w' h1 h2 => by
    have e : exK (fun i => rxN m (R i)) 64 = tickL m (dbOf R) := exL_tick hok m
    rw [e] at h1 ⊢
    exact ⟨A, c, rfl, own_mono h1 (by omega), h2⟩
  replace hok := Lib.hid hok
  replace hR := Lib.hid hR
  replace hm := Lib.hid hm
  go_enter Try.func40, Try.ntmps40
  go_upto_region 2 with fail
  generalize World.alloc (World.alloc (World.alloc w _) _) _ = w1 at *
  go_wp2_with fail
  go_loopw [7] (fun v7 wr => ∃ (k : Nat), v7 = .int .i64 k ∧ k ≤ m ∧ St w wr [(w.heap.size + 1 + 1, exC (fun i => rxN k (R i))), (w.heap.size + 1, rdC (fun _ => rsZ)), (w.heap.size, rdC (fun i => rtN k (R i)))] []) (fun v7 _ => m - (intOf v7).toNat)
  case atStart => exact ⟨0, rfl, by omega, S⟩
  case round =>
    clear S
    obtain ⟨k, rfl, hk, S⟩ := hrel
    by_cases hkn : k < m
    · have hc1 : (k : Int) < z := by have := hm.out; omega
      have hc2 : (k : Int) < 4000 := by omega
      have TK := rtick_any wr (fun i => rtN k (R i)) ((hR.out.ticks k).below S.b) (by rw [(rtN_db hok.out k).1]; exact tick_ok hok.out (by omega))
      unfold RTickPost at TK
      have hL : ∀ x ∈ outR (fun i => rtN k (R i)) 64, ∃ q : Nat, x = (q : Int) ∧ q < 64 := fun x h => outR_mem h
      have hLi : ∀ i : Nat, i < 64 → ((i : Int) ∈ outR (fun i => rtN k (R i)) 64 ↔ rx1 (rtN k (R i)) = true) := fun i hi => outR_iff hi
      have hl64 := outR_len (fun i => rtN k (R i)) 64
      generalize outR (fun i => rtN k (R i)) 64 = L at *
      generalize hn : L.length = n at *
      rw [show (fun i => rt1 ((fun i => rtN k (R i)) i)) = (fun i => rtN (k + 1) (R i)) from rfl] at TK
      replace TK := Lib.hid TK
      replace hL := Lib.hid hL
      replace hLi := Lib.hid hLi
      replace hn := Lib.hid hn
      have hwr := S.lt 0 rfl (by rw [exC_len]; omega)
      go_wp2_with (first | (refine wpList_loadR (R := fun i => rtN k (R i)) rfl (.tmp 2) rfl rfl ?hb ?_; (case hb => exact S.box 2 rfl)))
      (with_reducible refine (TK.out).mono ?_)
      rintro e w2 ⟨A, c, rfl, ho, hb⟩
      replace S := S.call hb
      generalize wr.heap.size = gL at *
      clear TK hb
      go_upto_region 7 with (first | (refine wpList_storeR (R := fun i => rtN k (R i)) rfl (.tmp 2) (.tmp 24) rfl rfl rfl ?hb ?_; (case hb => exact S.box 2 rfl)))
      replace S := S.setAllR 2 (fun i => rtN (k + 1) (R i)) rfl (Nat.le_refl _) (by simp <;> omega) _ rfl
      replace ho := own_farAll w.heap.size (fun b e => by have := (ho.lt b e).1; omega) (rdC (fun i => rtN (k + 1) (R i))) 0 w2 ho
      generalize World.setCells _ _ _ _ = w3 at *
      have hf0 : exC (fun i => rxN k (R i)) = exC (fJ (fun i => rxN k (R i)) L 0) := exC_congr fun i _ => by simp [fJ]
      simp only [List.set_cons_succ, List.set_cons_zero] at S
      rw [hf0] at S
      clear hf0
      replace ho := Lib.hid ho
      go_wp2_with fail
      go_loopw [9] (fun v9 wr => ∃ (j : Nat), v9 = .int .i64 j ∧ j ≤ n ∧ Hid (wr.ownsRow gL 3 1 (.slice A n c) n (L.map encZ)) ∧ St w wr [(w.heap.size + 1 + 1, exC (fJ (fun i => rxN k (R i)) L j)), (w.heap.size + 1, rdC (fun _ => rsZ)), (w.heap.size, rdC (fun i => rtN (k + 1) (R i)))] []) (fun v9 _ => n - (intOf v9).toNat)
      case atStart => exact ⟨0, rfl, by omega, ho, S⟩
      case round =>
        clear S ho
        obtain ⟨j, rfl, hj, ho, S⟩ := hrel
        by_cases hjn : j < n
        · have hjl : j < L.length := by rw [hn.out]; exact hjn
          obtain ⟨q, hq, hq64⟩ := hL.out _ (List.getElem_mem hjl)
          obtain ⟨bL, oL, hAe, hz⟩ := rd_at (own_slice ho.out) (by simp only [List.length_map]; omega)
          subst hAe
          have z0 : _ = some (Value.int .i64 (q : Int)) := hz j _ (by rw [List.getElem?_map, List.getElem?_eq_getElem hjl, hq]; rfl)
          have hnx := fJ_next (f := fun i => rxN k (R i)) hjl hq
          clear hz hq hjl
          have c0 := S.c 0 q rfl (exC_at _ hq64)
          have f0 := S.f 0 q rfl (exC_at _ hq64)
          have hq9 : (q : Int) < 64 := by omega
          have S2 := S.set 0 q (.bool true) rfl (by rw [exC_len]; omega) (by omega) (by simp <;> omega) [(w.heap.size + 1 + 1, exC (fJ (fun i => rxN k (R i)) L (j + 1))), (w.heap.size + 1, rdC (fun _ => rsZ)), (w.heap.size, rdC (fun i => rtN (k + 1) (R i)))] (by rw [exC_set _ hq64, hnx]; rfl)
          have ho2 := Lib.hid (own_far ho.out (p := ⟨w.heap.size + 1 + 1, q, none⟩) (fun b e => by have := (ho.out.lt b e).1; simp only; omega) (.bool true))
          clear S ho hnx
          go_wp2_with fail
          clear c0 f0 z0
          generalize World.setCell _ _ _ = w4 at *
          go_round
          case rel => exact ⟨j + 1, by go_num, by omega, ho2, S2⟩
          case measure => simp [intOf]; omega
        · obtain rfl : j = n := by omega
          have hf1 : exC (fJ (fun i => rxN k (R i)) L j) = exC (fun i => rxN (k + 1) (R i)) := exC_congr fun i hi => by
            unfold fJ
            rw [List.take_of_length_le (by rw [hn.out]; exact Nat.le_refl _)]
            show _ = (rxN k (R i) || rx1 (rtN k (R i)))
            congr 1
            rw [Bool.eq_iff_iff, decide_eq_true_iff]
            exact hLi.out i hi
          rw [hf1] at S
          clear hf1 ho hL hLi
          go_wp2_with fail
          go_round
          case rel => exact ⟨k + 1, by go_num, by omega, S⟩
          case measure => simp [intOf]; omega
    · obtain rfl : k = m := by omega
      have hsz3 := S.lt 0 rfl (by rw [exC_len]; omega)
      have hown0 : Hid (wr.ownsRow (w.heap.size + 3) 3 1 (.slice none (exK (fun i => rxN k (R i)) 0).length 0) (exK (fun i => rxN k (R i)) 0).length ((exK (fun i => rxN k (R i)) 0).map encZ)) := World.ownsRow_nil _ _ _ _
      have hz : ¬ (k : Int) < z := by have := hm.out; omega
      go_wp2_with fail
      go_loopw [10, 11] (fun v10 v11 wr => ∃ (i : Nat) (A : Option Addr) (c : Nat), v11 = .int .i64 i ∧ v10 = .slice A (exK (fun i => rxN k (R i)) i).length c ∧ i ≤ 64 ∧ w.heap.size + 3 ≤ wr.heap.size ∧ Hid (wr.ownsRow (w.heap.size + 3) 3 1 (.slice A (exK (fun i => rxN k (R i)) i).length c) (exK (fun i => rxN k (R i)) i).length ((exK (fun i => rxN k (R i)) i).map encZ)) ∧ St w wr [(w.heap.size + 1 + 1, exC (fun i => rxN k (R i))), (w.heap.size + 1, rdC (fun _ => rsZ)), (w.heap.size, rdC (fun i => rtN k (R i)))] []) (fun _ v11 _ => 64 - (intOf v11).toNat)
      case atStart => exact ⟨0, none, 0, rfl, rfl, by omega, by omega, hown0, S⟩
      case round =>
        clear S hown0 hsz3
        obtain ⟨i, A, c, rfl, rfl, hi, hsz, hown, S⟩ := hrel
        by_cases hin : i < 64
        · have c0 := S.c 0 i rfl (exC_at _ hin)
          have hlen := exK_len (fun i => rxN k (R i)) i
          have ht := @exK_t (fun i => rxN k (R i)) i
          have hf := @exK_f (fun i => rxN k (R i)) i
          obtain ⟨ex, hex⟩ : ∃ z, rxN k (R i) = z := ⟨_, rfl⟩
          rw [hex] at c0 ht hf
          cases ex with
          | false =>
            have e2 := hf rfl
            rw [← e2] at hown ⊢
            clear ht hf hlen hex e2
            go_wp2_with fail
            go_round
            case rel => exact ⟨i + 1, A, c, by go_num, rfl, by omega, hsz, hown, S⟩
            case measure => simp [intOf]; omega
          | true =>
            have e2 := ht rfl
            clear ht hf hex
            have hl9 : (exK (fun i => rxN k (R i)) (i + 1)).length = (exK (fun i => rxN k (R i)) i).length + 1 := by rw [e2]; simp
            have S4 := S.alloc (.cells #[.int .i64 (i : Int)] 3)
            have rd0 := Rd.lit wr #[.int .i64 (i : Int)] 3
            have o4 := own_below hown.out (below_new' wr (.cells #[.int .i64 (i : Int)] 3))
            have hsz4 : w.heap.size + 3 ≤ (wr.alloc (.cells #[.int .i64 (i : Int)] 3)).heap.size := by simp; omega
            clear S hown
            generalize hn : (exK (fun i => rxN k (R i)) i).length = n at *
            replace hn := Lib.hid hn
            replace hl9 := Lib.hid hl9
            replace e2 := Lib.hid e2
            go_wp2_with (at_builtin; refine wpList_appB rfl intT (.tmp 44) (.tmp 46) rfl (w.heap.size + 3) rfl o4 (m := 1) rfl (by simp) rd0 (by simp [Value.oneCell']) (by simp only [maxLen]; omega) (by omega) hsz4 (n + 1) ((exK (fun i => rxN k (R i)) i ++ [(i : Int)]).map encZ) rfl (by simp) ?_; intro v6 w6 o6 hbel6 hg6 hv6)
            rw [← e2.out, ← hl9.out] at o6
            replace S4 := S4.belowB hbel6 (by omega) (by simp)
            have hsz6 := Nat.le_trans hsz4 hbel6.size
            obtain ⟨A7, c7, rfl, -⟩ := own_rd o6
            replace o6 := Lib.hid o6
            clear o4 rd0 hbel6 hg6 hv6 hsz4 c0
            go_wp2_with fail
            go_round
            case rel => exact ⟨i + 1, A7, c7, by go_num, by with_reducible rfl, by omega, hsz6, o6, S4⟩
            case measure => simp [intOf]; omega
        · obtain rfl : i = 64 := by omega
          go_wp2_with (first | (refine wpList_loadR (R := fun i => rtN k (R i)) rfl (.tmp 2) rfl rfl ?hb ?_; (case hb => exact S.box 2 rfl)) | (refine wpList_storeR (R := fun _ => rsZ) rfl (.tmp 4) (.tmp 48) rfl rfl rfl ?hb ?_; (case hb => exact S.box 1 rfl)))
          have T9 := S.setAllR 1 (fun i => rtN k (R i)) rfl (by omega) (by simp <;> omega) _ rfl
          have ho := own_farAll (w.heap.size + 1) (fun b e => by have := hown.out.lt b e; omega) (rdC (fun i => rtN k (R i))) 0 wr hown.out
          generalize exK (fun i => rxN k (R i)) 64 = X at *
          exact bodyPost_ret (v := .tuple #[.agg (rdC (fun i => rtN k (R i))).toArray, .slice A X.length c]) (resR rfl (T9.box 1 rfl) rfl rfl) rfl (hpost.out _ _ _ ho T9.b)

end Go.Proofs.Ytkmpmgojgidcgaa

namespace Go.Proofs.Ytkmpmgojgidcgaa
set_option linter.unusedVariables false
open Go.RowKit Go.Sort Go.ChangeShapes Go.WideShapes Go.ChangeAt

/-- A step as it lies in memory. -/
structure Sx where
  x : Lx
  t : Int
def sxL (s : Sx) : List Value := lxL s.x ++ [.int .i64 s.t]
def sxV : List Sx → List Value
  | [] => []
  | s :: l => sxL s ++ sxV l
theorem sxV_len (l : List Sx) : (sxV l).length = l.length * 7 := by
  induction l with
  | nil => rfl
  | cons r l ih => simp only [sxV, sxL, lxL, List.length_append, List.length_cons, List.length_nil, ih]; omega
theorem sxV_get (l : List Sx) : ∀ (k : Nat) (hk : k < l.length) (j : Nat) (hj : j < 7), (sxV l)[7 * k + j]? = (sxL l[k])[j]? := by
  induction l with
  | nil => intro k hk; simp at hk
  | cons r l ih =>
    intro k hk j hj
    have h8 : (sxL r).length = 7 := rfl
    cases k with
    | zero => simp only [sxV, List.getElem_cons_zero]; rw [List.getElem?_append_left (by omega)]; simp
    | succ k =>
      simp only [sxV, List.getElem_cons_succ]
      rw [List.getElem?_append_right (by omega), h8, show 7 * (k + 1) + j - 7 = 7 * k + j by omega]
      exact ih k (by simpa using hk) j hj
theorem sx_form {w : World} {A : Option Addr} {l : List Sx} (h : Rd w A (sxV l)) (hn : 0 < l.length) : ∃ b off, A = some ⟨b, off, none⟩ := by
  obtain ⟨b, off, e, hc⟩ := rd_at h (by rw [sxV_len]; omega)
  exact ⟨b, off, e⟩
/-- The cells of a step. -/
theorem sx_cells {w : World} {b off : Nat} {l : List Sx} (h : Rd w (some ⟨b, off, none⟩) (sxV l)) (k : Nat) (hk : k < l.length) (s : Sx) (hs : l[k] = s) :
    w.cell? ⟨b, off + k * 7, none⟩ = some (.int .i64 s.x.y.o) ∧ w.cell? ⟨b, off + k * 7 + 1, none⟩ = some (.int .i64 s.x.y.s) ∧ w.cell? ⟨b, off + k * 7 + 2, none⟩ = some (.int .i64 s.x.y.a) ∧
    w.cell? ⟨b, off + k * 7 + 3, none⟩ = some (.bool s.x.y.ov) ∧ w.cell? ⟨b, off + k * 7 + 4, none⟩ = some (.slice s.x.A s.x.y.adj.length s.x.c) ∧ w.cell? ⟨b, off + k * 7 + 5, none⟩ = some (.slice s.x.B s.x.y.pre.length s.x.d) ∧
    w.cell? ⟨b, off + k * 7 + 6, none⟩ = some (.int .i64 s.t) := by
  subst hs
  obtain ⟨b', off', e, hc⟩ := rd_at h (by rw [sxV_len]; omega)
  injection e with e
  injection e with e1 e2 e3
  subst e1 e2
  have key : ∀ j (u : Value), j < 7 → (sxL l[k])[j]? = some u → w.cell? ⟨b, off + k * 7 + j, none⟩ = some u := fun j u hj hu => by
    rw [Nat.add_assoc]
    exact hc _ _ (by rw [Nat.mul_comm k 7, sxV_get l k hk j hj]; exact hu)
  have x0 := key 0 _ (by omega) rfl
  simp only [Nat.add_zero] at x0
  exact ⟨x0, key 1 _ (by omega) rfl, key 2 _ (by omega) rfl, key 3 _ (by omega) rfl, key 4 _ (by omega) rfl, key 5 _ (by omega) rfl, key 6 _ (by omega) rfl⟩
theorem rep_sx {w : World} {xs : List (La × Int)} : ∀ {vs : List Value}, Rep (IsTwo (IsLa w) (IsInt .i64)) 7 xs vs → ∃ l : List Sx, vs = sxV l ∧ l.length = xs.length ∧ ∀ s ∈ l, LxOk w s.x ∧ (Lit.int .i64 s.t).wf = true := by
  induction xs with
  | nil => intro vs h; exact ⟨[], h, rfl, by simp⟩
  | cons b t ih =>
    rintro vs ⟨cs, q, rfl, ⟨c1, c2, rfl, ⟨hla, hl6⟩, hc2, hwf⟩, _, hr⟩
    obtain ⟨l, rfl, hl, hok⟩ := ih hr
    obtain ⟨A, cc, B, d, hv, hat⟩ := hla.opened
    have hcs : c1 = [.int .i64 b.1.o, .int .i64 b.1.s, .int .i64 b.1.a, .bool b.1.ov, .slice A b.1.adj.length cc, .slice B b.1.pre.length d] := by
      simp only [laV, Value.agg.injEq] at hv
      have := congrArg Array.toList hv
      simpa using this
    subst hcs hc2
    refine ⟨⟨⟨b.1, A, cc, B, d⟩, b.2⟩ :: l, rfl, by simp [hl], fun s hs => ?_⟩
    rcases List.mem_cons.1 hs with rfl | hs
    · exact ⟨hat, hwf⟩
    · exact hok s hs

section
variable {H : Type} {enc : TypeId × Value → H} {w : World} {base : Nat} {spare : Nat → Bool} {held : Bool} {r : Reach} {b0 : Nat} {v : Value} {d : DataW H} {ps : List MemPlace}
set_option maxRecDepth 100000 in
theorem arg_sx (hv : Value.okWide Try.prog w r b0 39 v) (h : DataW.Trod enc Try.prog w base spare held 39 v d ps) :
    ∃ (A : Option Addr) (n c : Nat) (l : List Sx), v = .slice A n c ∧ Rd w A (sxV l) ∧ l.length = n ∧ n ≤ maxLen ∧ ∀ s ∈ l, LxOk w s.x ∧ (Lit.int .i64 s.t).wf = true := by
  have OS : Opens Try.prog w 97 (IsTwo (IsLa w) (IsInt .i64)) := opens_struct2 Try.underlying97 rfl (by kernel_rfl) (by kernel_rfl) (opens_la w) (opens_int Try.underlying3 (by kernel_rfl))
  obtain ⟨A, n, c, x, rfl, A', c', vs, h1, h2, h3, h4, h5⟩ := arg_slice Try.underlying39 (opens_slice Try.underlying39 (by kernel_rfl) OS) hv h
  simp only [List.cons.injEq, Value.slice.injEq, and_true] at h1
  obtain ⟨rfl, rfl, rfl⟩ := h1
  rw [show Try.prog.cellsOf 97 = 7 from by kernel_rfl] at h4
  obtain ⟨l, rfl, hl, hok⟩ := rep_sx h4
  exact ⟨A, _, c, l, rfl, h5, hl, Nat.le_trans h2 h3, hok⟩
end
def tsum : List Sx → Int
  | [] => 0
  | s :: l => max 0 s.t + tsum l
theorem tsum_app (a b : List Sx) : tsum (a ++ b) = tsum a + tsum b := by
  induction a with
  | nil => simp [tsum]
  | cons x a ih => simp only [List.cons_append, tsum, ih]; omega
structure Small33 (l : List Sx) : Prop where
  len : l.length ≤ 12
  few : ∀ s ∈ l, fewB s.x.y = true ∧ s.t ≤ 4000
  sum : tsum l ≤ 8000
def FewPost (w : World) (l : List Sx) (e : Ending) (w' : World) : Prop := ∃ fv, e = .returned (.bool fv) ∧ (fv = true → Small33 l) ∧ Below w.heap.size w w'

set_option maxRecDepth 100000 in
set_option maxHeartbeats 3200000 in
theorem few33_any (w : World) (A : Option Addr) (n c : Nat) (l : List Sx) (hA : Rd w A (sxV l)) (hn : l.length = n) (hm : n ≤ 9223372036854775807) (hok : ∀ s ∈ l, LxOk w s.x ∧ (Lit.int .i64 s.t).wf = true) :
    Calls Try.prog 18 #[.slice A n c] w (FewPost w l) := by
  have S := (St.start w).read hA
  replace hok := Lib.hid hok
  replace hn := Lib.hid hn
  clear hA
  go_enter Try.func18, Try.ntmps18
  go_wp2_with fail
  by_cases h12 : n ≤ 12
  · have h0 : Hid ((∀ s ∈ l.take 0, fewB s.x.y = true ∧ s.t ≤ 4000) ∧ tsum (l.take 0) = 0) := ⟨by simp, rfl⟩
    go_loopw [3, 4] (fun v3 v4 wr => ∃ (k : Nat) (z : Int), v4 = .int .i64 k ∧ v3 = .int .i64 z ∧ k ≤ n ∧ 0 ≤ z ∧ z ≤ 4000 * k ∧ Hid ((∀ s ∈ l.take k, fewB s.x.y = true ∧ s.t ≤ 4000) ∧ tsum (l.take k) = z) ∧ St w wr [] [(A, sxV l)]) (fun _ v4 _ => n - (intOf v4).toNat)
    case atStart => exact ⟨0, 0, rfl, rfl, by omega, by omega, by omega, h0, S⟩
    case round =>
      clear S h0
      obtain ⟨k, z, rfl, rfl, hk, hz0, hz1, hv, S⟩ := hrel
      by_cases hkn : k < n
      · have hkl : k < l.length := by rw [hn.out]; exact hkn
        obtain ⟨ba, off, rfl⟩ := sx_form (S.r 0 rfl) (by omega)
        obtain ⟨hso, hwt⟩ := hok.out l[k] (List.getElem_mem hkl)
        have hnx : fewB l[k].x.y = true → l[k].t ≤ 4000 → (∀ s ∈ l.take (k + 1), fewB s.x.y = true ∧ s.t ≤ 4000) ∧ tsum (l.take (k + 1)) = z + max 0 l[k].t := fun h1 h2 => by
          rw [List.take_succ_eq_append_getElem hkl]
          refine ⟨fun s hs => ?_, by rw [tsum_app, hv.out.2]; simp [tsum]⟩
          rcases List.mem_append.1 hs with hs | hs
          · exact hv.out.1 s hs
          · rw [List.mem_singleton.1 hs]; exact ⟨h1, h2⟩
        obtain ⟨s, hs⟩ : ∃ s, l[k] = s := ⟨_, rfl⟩
        rw [hs] at hso hnx hwt
        have hcell := fun W (h : Rd W (some ⟨ba, off, none⟩) (sxV l)) => sx_cells h k hkl s hs
        clear hs hkl
        obtain ⟨⟨y, A2, c2, B2, d2⟩, t⟩ := s
        unfold LxOk at hso
        simp only at hso hnx hcell hwt
        have htb := bounds_i64 hwt
        replace hcell := Lib.hid hcell
        replace hnx := Lib.hid hnx
        obtain ⟨fb, hfb⟩ : ∃ z, fewB y = z := ⟨_, rfl⟩
        have F := fun W hb => few_any W _ y (hso.below hb)
        rw [hfb] at F hnx
        replace F := Lib.hid F
        clear hso hfb hv
        obtain ⟨x0, x1, x2, x3, x4, x5, x6⟩ := hcell.out _ (S.r 0 rfl)
        go_wp2_with fail
        (with_reducible refine (F.out _ S.b).mono ?_)
        rintro e w3 ⟨rfl, hb⟩
        clear x0 x1 x2 x3 x4 x5 x6 F
        replace S := S.call hb
        clear hb
        cases fb with
        | false =>
          go_wp2_with fail
          go_ret
          exact ⟨false, rfl, by simp, S.b⟩
        | true =>
        obtain ⟨x0, x1, x2, x3, x4, x5, x6⟩ := hcell.out _ (S.r 0 rfl)
        by_cases ht : 4000 < t
        · have htd : decide ((4000 : Int) < t) = true := by simp; omega
          go_wp2_with fail
          go_ret
          exact ⟨false, rfl, by simp, S.b⟩
        have htd : decide ((4000 : Int) < t) = false := by simp; omega
        have hnx2 := Lib.hid (hnx.out (by trivial) (by omega))
        clear hnx x0 x1 x2 x3 x4 x5
        go_wp2_with fail
        go_round
        case rel => exact ⟨k + 1, z + max 0 t, by go_num, rfl, by omega, by omega, by omega, hnx2, S⟩
        case measure => simp [intOf]; omega
      · obtain rfl : k = n := by omega
        have hv2 := hv.out
        rw [List.take_of_length_le (by rw [hn.out]; exact Nat.le_refl _)] at hv2
        have hd : decide ((k : Int) ≤ 12) = true := by simp; omega
        by_cases hz : z ≤ 8000
        · have hd2 : decide (z ≤ 8000) = true := by simp; omega
          have hs : Hid (Small33 l) := ⟨by rw [hn.out]; exact h12, hv2.1, by rw [hv2.2]; exact hz⟩
          clear hv hv2
          go_wp2_with fail
          go_ret
          exact ⟨true, rfl, fun _ => hs.out, S.b⟩
        · have hd2 : decide (z ≤ 8000) = false := by simp; omega
          clear hv hv2
          go_wp2_with fail
          go_ret
          exact ⟨false, rfl, by simp, S.b⟩
  · go_loopw [3, 4] (fun v3 v4 wr => ∃ (k : Nat) (z : Int), v4 = .int .i64 k ∧ v3 = .int .i64 z ∧ k ≤ n ∧ St w wr [] [(A, sxV l)]) (fun _ v4 _ => n - (intOf v4).toNat)
    case atStart => exact ⟨0, 0, rfl, rfl, by omega, S⟩
    case round =>
      clear S
      obtain ⟨k, z, rfl, rfl, hk, S⟩ := hrel
      by_cases hkn : k < n
      · have hkl : k < l.length := by rw [hn.out]; exact hkn
        obtain ⟨ba, off, rfl⟩ := sx_form (S.r 0 rfl) (by omega)
        obtain ⟨hso, hwt⟩ := hok.out l[k] (List.getElem_mem hkl)
        obtain ⟨s, hs⟩ : ∃ s, l[k] = s := ⟨_, rfl⟩
        rw [hs] at hso hwt
        have hcell := fun W (h : Rd W (some ⟨ba, off, none⟩) (sxV l)) => sx_cells h k hkl s hs
        clear hs hkl
        obtain ⟨⟨y, A2, c2, B2, d2⟩, t⟩ := s
        unfold LxOk at hso
        simp only at hso hcell hwt
        have htb := bounds_i64 hwt
        replace hcell := Lib.hid hcell
        obtain ⟨fb, hfb⟩ : ∃ z, fewB y = z := ⟨_, rfl⟩
        have F := fun W hb => few_any W _ y (hso.below hb)
        rw [hfb] at F
        replace F := Lib.hid F
        clear hso hfb
        obtain ⟨x0, x1, x2, x3, x4, x5, x6⟩ := hcell.out _ (S.r 0 rfl)
        go_wp2_with fail
        (with_reducible refine (F.out _ S.b).mono ?_)
        rintro e w3 ⟨rfl, hb⟩
        clear x0 x1 x2 x3 x4 x5 x6 F
        replace S := S.call hb
        clear hb
        cases fb with
        | false =>
          go_wp2_with fail
          go_ret
          exact ⟨false, rfl, by simp, S.b⟩
        | true =>
        obtain ⟨x0, x1, x2, x3, x4, x5, x6⟩ := hcell.out _ (S.r 0 rfl)
        by_cases ht : 4000 < t
        · have htd : decide ((4000 : Int) < t) = true := by simp; omega
          go_wp2_with fail
          go_ret
          exact ⟨false, rfl, by simp, S.b⟩
        have htd : decide ((4000 : Int) < t) = false := by simp; omega
        clear x0 x1 x2 x3 x4 x5
        go_wp2_with fail
        go_round
        case rel => exact ⟨k + 1, _, by go_num, rfl, by omega, S⟩
        case measure => simp [intOf]; omega
      · obtain rfl : k = n := by omega
        have hd : decide ((k : Int) ≤ 12) = false := by simp; omega
        go_wp2_with fail
        go_ret
        exact ⟨false, rfl, by simp, S.b⟩

set_option maxRecDepth 100000 in
set_option maxHeartbeats 3200000 in
/-- Two equal lists. -/
theorem ints_any (w : World) (A B : Option Addr) (n c d : Nat) (xs : List Int) (hA : Rd w A (xs.map encZ)) (hB : Rd w B (xs.map encZ)) (hn : xs.length = n) (b1 : n ≤ 9223372036854775807) :
    Calls Try.prog 41 #[.slice A n c, .slice B n d] w fun e w' => e = .returned (.bool true) ∧ Below w.heap.size w w' := by
  have S := ((St.start w).read hB).read hA
  clear hA hB
  replace hn := Lib.hid hn
  have e0 : ((n : Int) != (n : Int)) = false := by simp
  go_enter Try.func41, Try.ntmps41
  go_wp2_with fail
  go_loopw [5] (fun v5 wr => ∃ i : Nat, v5 = .int .i64 i ∧ i ≤ n ∧ St w wr [] [(A, xs.map encZ), (B, xs.map encZ)]) (fun v5 _ => n - (intOf v5).toNat)
  case atStart => exact ⟨0, rfl, by omega, S⟩
  case round =>
    clear S
    obtain ⟨i, rfl, hi, S⟩ := hrel
    by_cases him : i < n
    · have hkl : i < xs.length := by have := hn.out; omega
      obtain ⟨b, off, rfl, hc⟩ := rd_at (S.r 0 rfl) (by simp only [List.length_map]; omega)
      obtain ⟨b', off', rfl, hc'⟩ := rd_at (S.r 1 rfl) (by simp only [List.length_map]; omega)
      have x0 : wr.cell? ⟨b, off + i, none⟩ = some (.int .i64 xs[i]) := hc i _ (by rw [List.getElem?_map, List.getElem?_eq_getElem hkl]; rfl)
      have y0 : wr.cell? ⟨b', off' + i, none⟩ = some (.int .i64 xs[i]) := hc' i _ (by rw [List.getElem?_map, List.getElem?_eq_getElem hkl]; rfl)
      clear hc hc'
      generalize xs[i] = x at *
      have e1 : (x != x) = false := by simp
      go_wp2_with fail
      go_quiet (fail)
      go_wp2_with fail
      go_round
      case rel => exact ⟨i + 1, by go_num, by omega, S.drewN nq⟩
      case measure => simp [intOf]; omega
    · obtain rfl : i = n := by omega
      go_wp2_with fail
      go_ret
      exact ⟨rfl, S.b⟩

set_option maxRecDepth 100000 in
set_option maxHeartbeats 3200000 in
/-- Two lists of the same advertisements. -/
theorem rsamelist_any (w : World) (A B : Option Addr) (n c d : Nat) (la lb : List Lx) (hA : Rd w A (lxV la)) (hB : Rd w B (lxV lb)) (hn : la.length = n) (hm : lb.length = n) (b1 : n ≤ 9223372036854775807) (oka : ∀ s ∈ la, LxOk w s) (okb : ∀ s ∈ lb, LxOk w s) (hE : laL la = laL lb) :
    Calls Try.prog 20 #[.slice A n c, .slice B n d] w fun e w' => e = .returned (.bool true) ∧ Below w.heap.size w w' := by
  have S := ((St.start w).read hB).read hA
  clear hA hB
  replace hn := Lib.hid hn
  replace hm := Lib.hid hm
  replace oka := Lib.hid oka
  replace okb := Lib.hid okb
  replace hE := Lib.hid hE
  have e0 : ((n : Int) != (n : Int)) = false := by simp
  go_enter Try.func20, Try.ntmps20
  go_wp2_with fail
  go_loopw [5] (fun v5 wr => ∃ i : Nat, v5 = .int .i64 i ∧ i ≤ n ∧ St w wr [] [(A, lxV la), (B, lxV lb)]) (fun v5 _ => n - (intOf v5).toNat)
  case atStart => exact ⟨0, rfl, by omega, S⟩
  case round =>
    clear S
    obtain ⟨i, rfl, hi, S⟩ := hrel
    by_cases him : i < n
    · have hka : i < la.length := by have := hn.out; omega
      have hkb : i < lb.length := by have := hm.out; omega
      obtain ⟨b, off, rfl⟩ := lx_form (S.r 0 rfl) (by omega)
      obtain ⟨b', off', rfl⟩ := lx_form (S.r 1 rfl) (by omega)
      have h1 := oka.out la[i] (List.getElem_mem hka)
      have h2 := okb.out lb[i] (List.getElem_mem hkb)
      have hyy : la[i].y = lb[i].y := by rw [← laL_get la i hka, ← laL_get lb i hkb]; simp only [hE.out]
      obtain ⟨x0, x1, x2, x3, x4, x5⟩ := lx_cells (S.r 0 rfl) i hka _ rfl
      obtain ⟨y0, y1, y2, y3, y4, y5⟩ := lx_cells (S.r 1 rfl) i hkb _ rfl
      clear e0
      generalize la[i] = s at *
      generalize lb[i] = u at *
      obtain ⟨y, A2, c2, B2, d2⟩ := s
      obtain ⟨y', A3, c3, B3, d3⟩ := u
      simp only at hyy
      subst hyy
      unfold LxOk at h1 h2
      simp only at h1 h2 x0 x1 x2 x3 x4 x5 y0 y1 y2 y3 y4 y5
      have EQ : Hid (∀ W, Below wr.heap.size wr W → Calls Try.prog 24 #[laV y.o y.s y.a y.ov A2 y.adj.length c2 B2 y.pre.length d2, laV y.o y.s y.a y.ov A3 y.adj.length c3 B3 y.pre.length d3] W fun e w' => e = .returned (.bool true) ∧ Below W.heap.size W w') := fun W hb => by
        have := equal_any W _ _ y y ((h1.below S.b).below hb) ((h2.below S.b).below hb)
        rwa [equB_refl'] at this
      clear h1 h2 hka hkb
      replace x0 := cell_regrown x0
      replace x1 := cell_regrown x1
      replace x2 := cell_regrown x2
      replace x3 := cell_regrown x3
      replace x4 := cell_regrown x4
      replace x5 := cell_regrown x5
      replace y0 := cell_regrown y0
      replace y1 := cell_regrown y1
      replace y2 := cell_regrown y2
      replace y3 := cell_regrown y3
      replace y4 := cell_regrown y4
      replace y5 := cell_regrown y5
      go_upto_region 6 with fail
      refine wp_region_quiet_below (by kernel_rfl) (by kernel_rfl) ?_
      repeat (go_big_quiet_step ((first | (go_at_call 24; with_reducible exact Calls.regrown_of (EQ.out _ (below_regrown _ _ _))))))
      refine wpQuiet_nil ?_
      intro _ hw'
      obtain ⟨⟨dq, osq⟩, hw''⟩ := hw'
      subst hw''
      replace S := S.call (below_regrown _ dq osq)
      generalize grow (redrawn _ dq) osq = w6 at *
      clear x0 x1 x2 x3 x4 x5 y0 y1 y2 y3 y4 y5 EQ
      go_wp2_with fail
      go_round
      case rel => exact ⟨i + 1, by go_num, by omega, S⟩
      case measure => simp [intOf]; omega
    · obtain rfl : i = n := by omega
      go_wp2_with fail
      go_ret
      exact ⟨rfl, S.b⟩

end Go.Proofs.Ytkmpmgojgidcgaa

namespace Go.Proofs.Ytkmpmgojgidcgaa
set_option linter.unusedVariables false
open Go.RowKit Go.Maps Go.Sort

theorem tickH_zero {h : Hd} (h1 : 1 ≤ h.l) : tickH 0 h = (some h, false) := by
  unfold tickH
  by_cases ha : h.x.a < 3600
  · rw [if_pos ha, if_pos (by omega)]; simp
  · rw [if_neg ha, if_neg (by omega)]; simp
theorem tickN_zero {N : Db} (h : DbOk N) : tickN 0 N = N := by
  funext i
  unfold tickN
  cases hN : N i with
  | none => rfl
  | some x => simp only; rw [tickH_zero (h i x hN).2.2.1]
theorem tickL_zero {N : Db} (h : DbOk N) : tickL 0 N = [] := by
  unfold tickL
  rw [List.filter_eq_nil_iff]
  intro i hi
  unfold expH
  cases hN : N i.toNat with
  | none => simp
  | some x => simp only; rw [tickH_zero (h _ x hN).2.2.1]; simp

set_option maxRecDepth 100000 in
set_option maxHeartbeats 1600000 in
theorem dtick_all (w : World) (g b : Nat) (N : Db) (n : Int) (h : DbAt w g b N) (hok : DbOk N) (hN : ∀ i, 64 ≤ i → N i = none) (hn : n ≤ 1000000) (m : Nat) (hm : m = n.toNat) :
    Calls Try.prog 32 #[.pointer (some ⟨g, 0, none⟩), .int .i64 n] w (DTickPost w g b N (m : Int)) := by
  by_cases h0 : 0 < n
  · rw [hm, Int.toNat_of_nonneg (by omega)]
    exact dtick_any w g b N n h hok hN h0 hn
  · have hp : Hid (DTickPost w g b N (m : Int) (.returned (.slice none 0 0)) w) := by
      have e : m = 0 := by omega
      show DTickPost _ _ _ _ _ _ _
      rw [e]
      refine ⟨_, rfl, ?_, ?_, (below_row (Below.refl _ _) _)⟩
      · show World.ownsRow _ _ _ _ _ _ _
        rw [show ((0 : Nat) : Int) = 0 from rfl, tickL_zero hok]
        exact World.ownsRow_nil _ _ _ _
      · rw [show ((0 : Nat) : Int) = 0 from rfl, tickN_zero hok]; exact h
    have hd : decide (n ≤ 0) = true := by simp; omega
    clear h hok hN hm
    go_enter Try.func32, Try.ntmps32
    go_wp2_with fail
    go_ret
    exact hp.out

theorem DbAt.drew {w : World} {g b : Nat} {N : Db} (h : DbAt w g b N) : DbAt w.drew g b N := h.below ⟨rfl, rfl, rfl, Nat.le_refl _, fun _ _ => rfl⟩
theorem resR3 {fn : Func} {a p u : Tmp} (h : fn.results = #[.tmp a, .cell p 46, .tmp u]) {tmps : Array Value} {w : World} {g : Nat} {R : Nat → Rs} (hb : Box w g (rdC R)) (hp : tmps.getD p undef = .pointer (some ⟨g, 0, none⟩)) {v1 v2 : Value} (h1 : tmps.getD a undef = v1) (h2 : tmps.getD u undef = v2) :
    (results fn tmps).run Try.prog w = .ok (.tuple #[v1, .agg (rdC R).toArray, v2]) w := by
  subst h1 h2
  have hp' : tmps[p]?.getD undef = .pointer (some ⟨g, 0, none⟩) := by simpa using hp
  simp [results, h, hp', asAddr, run_loadR hb]
/-- What holds before each step. -/
structure PlAt (w wr : World) (g b g6 g3 : Nat) (R : Nat → Rs) (A : Option Addr) (l : List Sx) : Prop where
  db : DbAt wr g b (dbOf R)
  rd : RdOk w R
  ok : DbOk (dbOf R)
  st : St w wr [(g6, rdC R), (g3, rdC (fun _ => rsZ))] [(A, sxV l)]
  ty6 : ∃ cs, wr.heap[g6]? = some (.cells cs 46 (0, 0))
  ty3 : ∃ cs, wr.heap[g3]? = some (.cells cs 46 (0, 0))
  n6 : g6 ≠ b
  n3 : g3 ≠ b
  n63 : g3 ≠ g6
  n6g : g6 ≠ g
  n3g : g3 ≠ g
  l3 : w.heap.size ≤ g3
  l6 : w.heap.size ≤ g6
  lb : w.heap.size ≤ b
section
variable {w wr w' : World} {g b g6 g3 : Nat} {R R' : Nat → Rs} {A : Option Addr} {l : List Sx}
theorem ty_below {k : Nat} {t : TypeId} (h : ∃ cs, wr.heap[k]? = some (.cells cs t (0, 0))) (hb : Below wr.heap.size wr w') : ∃ cs, w'.heap[k]? = some (.cells cs t (0, 0)) := by
  obtain ⟨cs, e⟩ := h
  exact ⟨cs, (hb.block _ (heap_lt e)).trans e⟩
theorem ty_row {k m : Nat} {t : TypeId} (h : ∃ cs, wr.heap[k]? = some (.cells cs t (0, 0))) (hg : wr.grownBy w' (some m)) (hne : k ≠ m) : ∃ cs, w'.heap[k]? = some (.cells cs t (0, 0)) := by
  obtain ⟨cs, e⟩ := h
  exact ⟨cs, (hg.block _ (heap_lt e) (fun e2 => by injection e2 with e2; exact hne e2)).trans e⟩
theorem PlAt.below (h : PlAt w wr g b g6 g3 R A l) (hb : Below wr.heap.size wr w') : PlAt w w' g b g6 g3 R A l :=
  ⟨h.db.below hb, h.rd, h.ok, h.st.call hb, ty_below h.ty6 hb, ty_below h.ty3 hb, h.n6, h.n3, h.n63, h.n6g, h.n3g, h.l3, h.l6, h.lb⟩
/-- Behind the program's step: the database alone has turned. -/
structure PlMid (w wr : World) (g b g6 g3 : Nat) (R : Nat → Rs) (N : Db) (A : Option Addr) (l : List Sx) : Prop where
  db : DbAt wr g b N
  rd : RdOk w R
  ok : DbOk N
  st : St w wr [(g6, rdC R), (g3, rdC (fun _ => rsZ))] [(A, sxV l)]
  ty6 : ∃ cs, wr.heap[g6]? = some (.cells cs 46 (0, 0))
  ty3 : ∃ cs, wr.heap[g3]? = some (.cells cs 46 (0, 0))
  n6 : g6 ≠ b
  n3 : g3 ≠ b
  n63 : g3 ≠ g6
  n6g : g6 ≠ g
  n3g : g3 ≠ g
  l3 : w.heap.size ≤ g3
  l6 : w.heap.size ≤ g6
  lb : w.heap.size ≤ b
theorem PlMid.below {N : Db} (h : PlMid w wr g b g6 g3 R N A l) (hb : Below wr.heap.size wr w') : PlMid w w' g b g6 g3 R N A l :=
  ⟨h.db.below hb, h.rd, h.ok, h.st.call hb, ty_below h.ty6 hb, ty_below h.ty3 hb, h.n6, h.n3, h.n63, h.n6g, h.n3g, h.l3, h.l6, h.lb⟩
theorem PlAt.turn {N : Db} (h : PlAt w wr g b g6 g3 R A l) (hd : DbAt w' g b N) (hN : DbOk N) (hg : wr.grownBy w' (some b)) : PlMid w w' g b g6 g3 R N A l :=
  ⟨hd, h.rd, hN, h.st.via hg h.lb (by
    intro q hq
    simp only [List.mem_cons, List.not_mem_nil, or_false] at hq
    rcases hq with rfl | rfl
    · exact ⟨h.n6, by rw [rdC_len]; omega⟩
    · exact ⟨h.n3, by rw [rdC_len]; omega⟩), ty_row h.ty6 hg h.n6, ty_row h.ty3 hg h.n3, h.n6, h.n3, h.n63, h.n6g, h.n3g, h.l3, h.l6, h.lb⟩
/-- .. the reference's has turned too. -/
theorem PlMid.done (h : PlMid w wr g b g6 g3 R (dbOf R') A l) (hR : RdOk w R') : PlAt w (wr.setCells g6 0 (rdC R')) g b g6 g3 R' A l :=
  ⟨h.db.keptOff (setCells_grown _ _ _ _) h.ty6 (by decide) (by decide) h.n6g, hR, h.ok, h.st.setAllR 0 R' rfl h.l6 (by
    intro q hq
    simp only [List.eraseIdx_zero, List.tail_cons, List.mem_cons, List.not_mem_nil, or_false] at hq
    rw [hq]; exact h.n63) _ rfl, setCells_ty _ _ _ _ _ h.ty6, ty_row h.ty3 (setCells_grown _ _ _ _) h.n63, h.n6, h.n3, h.n63, h.n6g, h.n3g, h.l3, h.l6, h.lb⟩
end
def PlayPost (w : World) (e : Ending) (w' : World) : Prop :=
  ∃ g b R, e = .returned (.tuple #[.pointer (some ⟨g, 0, none⟩), .agg (rdC R).toArray, .bool true]) ∧ DbAt w' g b (dbOf R) ∧ RdOk w R ∧ DbOk (dbOf R) ∧ w.heap.size ≤ b ∧ Below w.heap.size w w'
theorem below_drewW {w w' : World} (h : Below w.drew.heap.size w.drew w') : Below w.heap.size w w' := ⟨h.os, h.tape, h.output, h.size, h.block⟩

set_option maxRecDepth 100000 in
set_option maxHeartbeats 12800000 in
theorem play_any (w : World) (A : Option Addr) (n c : Nat) (l : List Sx) (hA : Rd w A (sxV l)) (hn : l.length = n) (hsm : Small33 l) (hok : ∀ s ∈ l, LxOk w s.x ∧ (Lit.int .i64 s.t).wf = true) :
    Calls Try.prog 19 #[.slice A n c] w (PlayPost w) := by
  have S := ((St.start w).read hA).new' Try.zeroCells46 46 w.heap.size (rdC (fun _ => rsZ)) rfl (by rw [← rdC_zero])
  have hn12 : n ≤ 12 := by rw [← hn]; exact hsm.len
  replace hok := Lib.hid hok
  replace hn := Lib.hid hn
  replace hsm := Lib.hid hsm
  clear hA
  go_enter Try.func19, Try.ntmps19
  go_upto_region 1 with fail
  obtain ⟨w0, hw0⟩ : ∃ z, w.alloc (.cells Try.zeroCells46 46) = z := ⟨_, rfl⟩
  rw [hw0] at S ⊢
  have hs0 := S.b.size
  have hs00 := S.lt 0 rfl (by rw [rdC_len]; omega)
  go_wp2_with fail
  (with_reducible refine (dnew_any _).mono ?_)
  rintro e w1 ⟨rfl, dat, hb⟩
  replace S := S.call hb
  have hlt := dat.lt
  have ht3 : ∃ cs, w1.heap[w.heap.size]? = some (.cells cs 46 (0, 0)) := ty_below ⟨_, by rw [← hw0]; exact heap_alloc_new w _⟩ hb
  clear hb
  generalize hgb : w0.heap.size = b at *
  clear hgb
  have S2 := S.new' Try.zeroCells46 46 w1.heap.size (rdC (fun _ => rsZ)) rfl (by rw [← rdC_zero])
  have hP : PlAt w (w1.alloc (.cells Try.zeroCells46 46)) (b + 1) b w1.heap.size w.heap.size (fun _ => rsZ) A l :=
    ⟨by rw [dbOf_zero]; exact dat.below (below_new' _ _), rsZ_ok _, by rw [dbOf_zero]; exact (fun i h e => nomatch e), S2, ⟨_, heap_alloc_new w1 _⟩, ty_below ht3 (below_new' _ _), by omega, by omega, by omega, by omega, by omega, Nat.le_refl _, by omega, by omega⟩
  clear S2 S dat
  generalize b + 1 = g at *
  go_upto_region 3 with fail
  generalize World.alloc w1 _ = w2 at *
  generalize w1.heap.size = g6 at *
  replace hP := Lib.hid hP
  clear hlt hs00 hs0 hw0 ht3
  go_wp2_with fail
  go_loopw [7] (fun v7 wr => ∃ (k : Nat) (R : Nat → Rs), v7 = .int .i64 k ∧ k ≤ n ∧ Hid (PlAt w wr g b g6 w.heap.size R A l)) (fun v7 _ => n - (intOf v7).toNat)
  case atStart => exact ⟨0, _, rfl, by omega, hP⟩
  case round =>
    clear hP
    obtain ⟨k, R, rfl, hk, hP⟩ := hrel
    by_cases hkn : k < n
    · have hkl : k < l.length := by rw [hn.out]; exact hkn
      have P := hP.out
      clear hP
      obtain ⟨ba, off, rfl⟩ := sx_form (P.st.r 0 rfl) (by omega)
      obtain ⟨hso, hwt⟩ := hok.out l[k] (List.getElem_mem hkl)
      have ht4 := (hsm.out.few l[k] (List.getElem_mem hkl)).2
      obtain ⟨s, hs⟩ : ∃ s, l[k] = s := ⟨_, rfl⟩
      rw [hs] at hso hwt ht4
      have hcell := fun W (h : Rd W (some ⟨ba, off, none⟩) (sxV l)) => sx_cells h k hkl s hs
      clear hs hkl
      obtain ⟨⟨y, A2, c2, B2, d2⟩, t⟩ := s
      unfold LxOk at hso
      simp only at hso hcell hwt ht4
      have htb := bounds_i64 hwt
      replace hcell := Lib.hid hcell
      obtain ⟨x0, x1, x2, x3, x4, x5, x6⟩ := hcell.out _ (P.st.r 0 rfl)
      by_cases ht0 : t = 0
      · subst ht0
        obtain ⟨vb, hvb⟩ : ∃ z, vB y = z := ⟨_, rfl⟩
        have I := dinstall_any wr g b (dbOf R) _ y P.db (hso.below P.st.b)
        have V := fun W hb => rvalid_at W _ y (hso.below hb)
        have hnok := inst_ok P.ok (a := y) (fun h => vB_iff.1 h)
        unfold InstPost at I
        rw [hvb] at V
        obtain ⟨ie, hie⟩ : ∃ z, instE y = z := ⟨_, rfl⟩
        obtain ⟨ir, hir⟩ : ∃ z, instR (dbOf R) y = z := ⟨_, rfl⟩
        rw [hie, hir] at I
        have hie2 : ie = if vb = true then 0 else 1 := by rw [← hie]; unfold instE; rw [hvb]
        replace hie2 := Lib.hid hie2
        replace hir := Lib.hid hir
        replace hvb := Lib.hid hvb
        replace I := Lib.hid I
        replace V := Lib.hid V
        replace P := Lib.hid P
        clear hie
        go_wp2_with fail
        (with_reducible refine (I.out).mono ?_)
        rintro e w3 ⟨rfl, dat, hg⟩
        clear x0 x1 x2 x3 x4 x5 x6 I
        have P3 := P.out.turn dat hnok hg
        have hPR := P.out.rd
        clear dat hg hnok P
        obtain ⟨x0, x1, x2, x3, x4, x5, x6⟩ := hcell.out _ (P3.st.r 0 rfl)
        clear x6
        replace hPR := Lib.hid hPR
        have V3 := V.out _ P3.st.b
        replace V3 := Lib.hid V3
        clear V
        replace P3 := Lib.hid P3
        go_wp2_with fail
        (with_reducible refine (V3.out).mono ?_)
        rintro e w4 ⟨rfl, hb⟩
        clear x0 x1 x2 x3 x4 x5 V3
        replace P3 := P3.out.below hb
        clear hb
        cases vb with
        | false =>
          have e1 : ie = 1 := by rw [hie2.out]; rfl
          subst e1
          have e2 : ir = 0 := by rw [← hir.out]; unfold instR; rw [hvb.out, if_neg (by simp)]
          subst e2
          have eN : instN (dbOf R) y = dbOf R := by unfold instN; rw [hvb.out, if_neg (by simp)]
          rw [eN] at P3
          have P5 : Hid (PlAt w w4 g b g6 w.heap.size R (some ⟨ba, off, none⟩) l) := ⟨P3.db, P3.rd, P3.ok, P3.st, P3.ty6, P3.ty3, P3.n6, P3.n3, P3.n63, P3.n6g, P3.n3g, P3.l3, P3.l6, P3.lb⟩
          clear P3 eN hir hie2 hvb
          go_wp2_with fail
          go_round
          case rel => exact ⟨k + 1, R, by go_num, by omega, P5⟩
          case measure => simp [intOf]; omega
        | true =>
          have e1 : ie = 0 := by rw [hie2.out]; rfl
          subst e1
          have hva := vB_iff.1 hvb.out
          have RI := fun W (hr : RdOk W R) (hl : LaAt W (laV y.o y.s y.a y.ov A2 y.adj.length c2 B2 y.pre.length d2) y) => rinstall_any W R _ y hr hl hva
          unfold RInstPost at RI
          rw [hir.out] at RI
          replace RI := Lib.hid RI
          obtain ⟨x0, x1, x2, x3, x4, x5, x6⟩ := hcell.out _ (P3.st.r 0 rfl)
          clear x6
          go_upto_region 17 with fail
          have hbx := P3.st.box 0 rfl
          have hbxd : Box w4.drew g6 (rdC R) := hbx.drew
          have R3d : RdOk w4.drew R := (P3.rd.below P3.st.b).below ⟨rfl, rfl, rfl, Nat.le_refl _, fun _ _ => rfl⟩
          have h3d : LaAt w4.drew (laV y.o y.s y.a y.ov A2 y.adj.length c2 B2 y.pre.length d2) y := (hso.below P3.st.b).below ⟨rfl, rfl, rfl, Nat.le_refl _, fun _ _ => rfl⟩
          replace R3d := Lib.hid R3d
          replace h3d := Lib.hid h3d
          replace hbx := Lib.hid hbx
          replace P3 := Lib.hid P3
          have hX : w4.drew.cell? ⟨ba, off + k * 7, none⟩ = some (.int .i64 y.o) ∧ w4.drew.cell? ⟨ba, off + k * 7 + 1, none⟩ = some (.int .i64 y.s) ∧ w4.drew.cell? ⟨ba, off + k * 7 + 2, none⟩ = some (.int .i64 y.a) ∧ w4.drew.cell? ⟨ba, off + k * 7 + 3, none⟩ = some (.bool y.ov) ∧ w4.drew.cell? ⟨ba, off + k * 7 + 4, none⟩ = some (.slice A2 y.adj.length c2) ∧ w4.drew.cell? ⟨ba, off + k * 7 + 5, none⟩ = some (.slice B2 y.pre.length d2) := ⟨x0, x1, x2, x3, x4, x5⟩
          clear x0 x1 x2 x3 x4 x5
          refine wp_region_noPanic ?_
          refine wp_region_held_drew (S := fun w' => w'.cell? ⟨ba, off + k * 7, none⟩ = some (.int .i64 y.o) ∧ w'.cell? ⟨ba, off + k * 7 + 1, none⟩ = some (.int .i64 y.s) ∧ w'.cell? ⟨ba, off + k * 7 + 2, none⟩ = some (.int .i64 y.a) ∧ w'.cell? ⟨ba, off + k * 7 + 3, none⟩ = some (.bool y.ov) ∧ w'.cell? ⟨ba, off + k * 7 + 4, none⟩ = some (.slice A2 y.adj.length c2) ∧ w'.cell? ⟨ba, off + k * 7 + 5, none⟩ = some (.slice B2 y.pre.length d2)) (by kernel_rfl) hX (fun hHeld => ?_)
          refine take_first (i := 1) (v := .slice (some ⟨ba, off, none⟩) n c) (some 76) rfl rfl (by kernel_rfl) (by kernel_rfl) (by kernel_rfl) (fun _ _ _ h => h) (Or.inl ⟨by rfl, fun _ _ => rfl⟩) (by assumption) ?_
          (try simp only [Act.put]); (try simp only [List.setIfInBounds_toArray]); (try simp only [List.set_cons_succ]); (try simp only [List.set_cons_zero])
          refine take_first (i := 2) (v := .int .i64 k) (some 77) rfl rfl (by kernel_rfl) (by kernel_rfl) (by kernel_rfl) (fun _ _ _ h => h) (Or.inl ⟨by rfl, fun _ _ => rfl⟩) (by assumption) ?_
          (try simp only [Act.put]); (try simp only [List.setIfInBounds_toArray]); (try simp only [List.set_cons_succ]); (try simp only [List.set_cons_zero])
          refine take_first (i := 3) (v := ?_) (some 78) rfl rfl (by kernel_rfl) (by kernel_rfl) (by kernel_rfl) (fun _ _ _ h => h) (Or.inl ⟨by rfl, ?_⟩) (by assumption) ?_
          rotate_left
          · intro w hSw; (try dsimp only at hSw); go_simp; (try with_reducible rfl)
          (try simp only [Act.put]); (try simp only [List.setIfInBounds_toArray]); (try simp only [List.set_cons_succ]); (try simp only [List.set_cons_zero])
          refine take_first (i := 4) (v := ?_) (some 79) rfl rfl (by kernel_rfl) (by kernel_rfl) (by kernel_rfl) (fun _ _ _ h => h) (Or.inl ⟨by rfl, ?_⟩) (by assumption) ?_
          rotate_left
          · intro w hSw; (try dsimp only at hSw); go_simp; (try with_reducible rfl)
          (try simp only [Act.put]); (try simp only [List.setIfInBounds_toArray]); (try simp only [List.set_cons_succ]); (try simp only [List.set_cons_zero])
          refine take_first (i := 5) (v := ?_) (some 80) rfl rfl (by kernel_rfl) (by kernel_rfl) (by kernel_rfl) (fun _ _ _ h => h) (Or.inl ⟨by rfl, ?_⟩) (by assumption) ?_
          rotate_left
          · intro w hSw; (try dsimp only at hSw); go_simp; (try with_reducible rfl)
          (try simp only [Act.put]); (try simp only [List.setIfInBounds_toArray]); (try simp only [List.set_cons_succ]); (try simp only [List.set_cons_zero])
          refine ready_loadR (i := 0) (by kernel_rfl) rfl (.tmp 6) (some 75) rfl rfl rfl rfl hbxd hHeld ?_
          (try simp only [Act.put]); (try simp only [List.setIfInBounds_toArray]); (try simp only [List.set_cons_succ]); (try simp only [List.set_cons_zero])
          refine wpAnyH_ready (rs := [6]) (by kernel_rfl) (by simp) ?_
          refine AllReadyH.cons rfl (fun K hK => ?_) AllReadyH.nil
          go_simp
          (with_reducible refine (RI.out w4.drew R3d.out h3d.out).mono ?_)
          rintro e wa ⟨R', rfl, hRk, hdb, hba⟩
          dsimp only
          have hbxa := hbx.out.drew.later hba
          have P4 := P3.out.below (below_drewW hba)
          have hR' := hRk w hPR.out hso
          rw [← hdb] at P4
          have P5 := P4.done hR'
          have q4 := hcell.out _ (P4.st.r 0 rfl)
          have q5 := hcell.out _ (P5.st.r 0 rfl)
          have hXa := (⟨q4.1, q4.2.1, q4.2.2.1, q4.2.2.2.1, q4.2.2.2.2.1, q4.2.2.2.2.2.1⟩ : wa.cell? ⟨ba, off + k * 7, none⟩ = some (.int .i64 y.o) ∧ wa.cell? ⟨ba, off + k * 7 + 1, none⟩ = some (.int .i64 y.s) ∧ wa.cell? ⟨ba, off + k * 7 + 2, none⟩ = some (.int .i64 y.a) ∧ wa.cell? ⟨ba, off + k * 7 + 3, none⟩ = some (.bool y.ov) ∧ wa.cell? ⟨ba, off + k * 7 + 4, none⟩ = some (.slice A2 y.adj.length c2) ∧ wa.cell? ⟨ba, off + k * 7 + 5, none⟩ = some (.slice B2 y.pre.length d2))
          have hXb : ((wa.setCells g6 0 (rdC R')).cell? ⟨ba, off + k * 7, none⟩ = some (.int .i64 y.o) ∧ (wa.setCells g6 0 (rdC R')).cell? ⟨ba, off + k * 7 + 1, none⟩ = some (.int .i64 y.s) ∧ (wa.setCells g6 0 (rdC R')).cell? ⟨ba, off + k * 7 + 2, none⟩ = some (.int .i64 y.a) ∧ (wa.setCells g6 0 (rdC R')).cell? ⟨ba, off + k * 7 + 3, none⟩ = some (.bool y.ov) ∧ (wa.setCells g6 0 (rdC R')).cell? ⟨ba, off + k * 7 + 4, none⟩ = some (.slice A2 y.adj.length c2) ∧ (wa.setCells g6 0 (rdC R')).cell? ⟨ba, off + k * 7 + 5, none⟩ = some (.slice B2 y.pre.length d2)) := ⟨q5.1, q5.2.1, q5.2.2.1, q5.2.2.2.1, q5.2.2.2.2.1, q5.2.2.2.2.2.1⟩
          refine hK.out _ _ hXa (fun hHeld => ?_)
          clear hK K q4 q5
          replace P5 := Lib.hid P5
          clear P4 hdb hRk hR'
          refine take_first (i := 7) (v := .tuple #[.agg (rdC R').toArray, .int .i64 ir]) (some 74) rfl rfl (by kernel_rfl) (by kernel_rfl) (by kernel_rfl) (fun _ _ _ h => h) (Or.inl ⟨by rfl, fun _ _ => rfl⟩) (by assumption) ?_
          (try simp only [Act.put]); (try simp only [List.setIfInBounds_toArray]); (try simp only [List.set_cons_succ]); (try simp only [List.set_cons_zero])
          refine take_first (i := 8) (v := .agg (rdC R').toArray) (some 82) rfl rfl (by kernel_rfl) (by kernel_rfl) (by kernel_rfl) (fun _ _ _ h => h) (Or.inl ⟨by rfl, fun _ _ => rfl⟩) (by assumption) ?_
          (try simp only [Act.put]); (try simp only [List.setIfInBounds_toArray]); (try simp only [List.set_cons_succ]); (try simp only [List.set_cons_zero])
          refine take_first (i := 9) (v := .int .i64 ir) (some 83) rfl rfl (by kernel_rfl) (by kernel_rfl) (by kernel_rfl) (fun _ _ _ h => h) (Or.inl ⟨by rfl, fun _ _ => rfl⟩) (by assumption) ?_
          (try simp only [Act.put]); (try simp only [List.setIfInBounds_toArray]); (try simp only [List.set_cons_succ]); (try simp only [List.set_cons_zero])
          refine ready_storeR (i := 10) (by kernel_rfl) rfl (.tmp 6) (.tmp 82) none rfl rfl rfl rfl rfl hbxa hXb ?_
          clear hHeld hXa hX
          (try simp only [Act.put]); (try simp only [List.setIfInBounds_toArray]); (try simp only [List.set_cons_succ]); (try simp only [List.set_cons_zero])
          refine take_first (i := 11) (v := .int .i64 ir) (some 12) rfl rfl (by kernel_rfl) (by kernel_rfl) (by kernel_rfl) (fun _ _ _ h => h) (Or.inl ⟨by rfl, fun _ _ => rfl⟩) (by assumption) ?_
          (try simp only [Act.put]); (try simp only [List.setIfInBounds_toArray]); (try simp only [List.set_cons_succ]); (try simp only [List.set_cons_zero])
          refine wpAnyH_done (by kernel_rfl) ?_ _
          refine NoPanic.normal ?_
          generalize World.setCells _ _ _ _ = w5 at *
          have e9 : (ir != ir) = false := by simp
          clear hXb hbxa hbxd hba hir hie2
          go_wp2_with fail
          go_round
          case rel => exact ⟨k + 1, R', by go_num, by omega, P5⟩
          case measure => simp [intOf]; omega
      · have e0 : (t != 0) = true := by simp [ht0]
        obtain ⟨m, hm⟩ : ∃ m, m = t.toNat := ⟨_, rfl⟩
        have TD := dtick_all wr g b (dbOf R) t P.db P.ok (dbOf_small R) (by omega) m hm
        unfold DTickPost at TD
        have hdb := (rtN_db P.ok m).1
        have RT := fun W (hr : RdOk W R) => rticks_any W R hr P.ok t m hm (by omega)
        unfold RTicksPost at RT
        have hl64 : (tickL (m : Int) (dbOf R)).length ≤ 64 := by unfold tickL; exact Nat.le_trans (List.length_filter_le _ _) (orgs_len _)
        generalize tickL (m : Int) (dbOf R) = L at *
        generalize hLn : L.length = ln at *
        replace TD := Lib.hid TD
        replace RT := Lib.hid RT
        replace hdb := Lib.hid hdb
        replace hLn := Lib.hid hLn
        replace hm := Lib.hid hm
        have hgr6 : g6 < wr.heap.size := P.st.lt 0 rfl (by rw [rdC_len]; omega)
        replace P := Lib.hid P
        go_wp2_with fail
        (with_reducible refine (TD.out).mono ?_)
        rintro e w3 ⟨v3, rfl, o3, dat, hg⟩
        clear x0 x1 x2 x3 x4 x5 x6 TD e0
        obtain ⟨A3, c3, rfl, -⟩ := own_rd o3
        have P3 := P.out.turn dat (tick_ok P.out.ok (by omega)) hg
        rw [← hdb.out] at P3
        have hR' := RdOk.ticks P.out.rd m
        clear dat hg P
        obtain ⟨x0, x1, x2, x3, x4, x5, x6⟩ := hcell.out _ (P3.st.r 0 rfl)
        clear x0 x1 x2 x3 x4 x5
        go_upto_region 9 with fail
        have hbx := P3.st.box 0 rfl
        have hbxd : Box w3.drew g6 (rdC R) := hbx.drew
        have R3d : RdOk w3.drew R := (P3.rd.below P3.st.b).below ⟨rfl, rfl, rfl, Nat.le_refl _, fun _ _ => rfl⟩
        have hg3 : g6 < w3.heap.size := P3.st.lt 0 rfl (by rw [rdC_len]; omega)
        replace R3d := Lib.hid R3d
        replace hbx := Lib.hid hbx
        replace P3 := Lib.hid P3
        replace hR' := Lib.hid hR'
        replace o3 := Lib.hid o3
        refine wp_region_noPanic ?_
        refine wp_region_held_drew (S := fun w' => w'.cell? ⟨ba, off + k * 7 + 6, none⟩ = some (.int .i64 t)) (by kernel_rfl) x6 (fun hHeld => ?_)
        refine take_first (i := 1) (v := .slice (some ⟨ba, off, none⟩) n c) (some 35) rfl rfl (by kernel_rfl) (by kernel_rfl) (by kernel_rfl) (fun _ _ _ h => h) (Or.inl ⟨by rfl, fun _ _ => rfl⟩) (by assumption) ?_
        (try simp only [Act.put]); (try simp only [List.setIfInBounds_toArray]); (try simp only [List.set_cons_succ]); (try simp only [List.set_cons_zero])
        refine take_first (i := 2) (v := .int .i64 k) (some 36) rfl rfl (by kernel_rfl) (by kernel_rfl) (by kernel_rfl) (fun _ _ _ h => h) (Or.inl ⟨by rfl, fun _ _ => rfl⟩) (by assumption) ?_
        (try simp only [Act.put]); (try simp only [List.setIfInBounds_toArray]); (try simp only [List.set_cons_succ]); (try simp only [List.set_cons_zero])
        refine take_first (i := 3) (v := ?_) (some 37) rfl rfl (by kernel_rfl) (by kernel_rfl) (by kernel_rfl) (fun _ _ _ h => h) (Or.inl ⟨by rfl, ?_⟩) (by assumption) ?_
        rotate_left
        · intro w hSw; (try dsimp only at hSw); go_simp; (try with_reducible rfl)
        (try simp only [Act.put]); (try simp only [List.setIfInBounds_toArray]); (try simp only [List.set_cons_succ]); (try simp only [List.set_cons_zero])
        refine take_first (i := 4) (v := ?_) (some 38) rfl rfl (by kernel_rfl) (by kernel_rfl) (by kernel_rfl) (fun _ _ _ h => h) (Or.inl ⟨by rfl, ?_⟩) (by assumption) ?_
        rotate_left
        · intro w hSw; (try dsimp only at hSw); go_simp; (try with_reducible rfl)
        (try simp only [Act.put]); (try simp only [List.setIfInBounds_toArray]); (try simp only [List.set_cons_succ]); (try simp only [List.set_cons_zero])
        refine take_first (i := 5) (v := ?_) (some 39) rfl rfl (by kernel_rfl) (by kernel_rfl) (by kernel_rfl) (fun _ _ _ h => h) (Or.inl ⟨by rfl, ?_⟩) (by assumption) ?_
        rotate_left
        · intro w hSw; (try dsimp only at hSw); go_simp; (try with_reducible rfl)
        (try simp only [Act.put]); (try simp only [List.setIfInBounds_toArray]); (try simp only [List.set_cons_succ]); (try simp only [List.set_cons_zero])
        refine ready_loadR (i := 0) (by kernel_rfl) rfl (.tmp 6) (some 34) rfl rfl rfl rfl hbxd hHeld ?_
        (try simp only [Act.put]); (try simp only [List.setIfInBounds_toArray]); (try simp only [List.set_cons_succ]); (try simp only [List.set_cons_zero])
        refine wpAnyH_ready (rs := [6]) (by kernel_rfl) (by simp) ?_
        refine AllReadyH.cons rfl (fun K hK => ?_) AllReadyH.nil
        go_simp
        (with_reducible refine (RT.out w3.drew R3d.out).mono ?_)
        rintro e wa ⟨A4, c4, rfl, o4, hba⟩
        dsimp only
        have x6a := cell_later hba hHeld
        have hbxa := hbx.out.drew.later hba
        have P4 := P3.out.below (below_drewW hba)
        have P5 := P4.done hR'.out
        have o3' := own_below o3.out (below_drewW hba)
        refine hK.out _ _ x6a (fun hHeld => ?_)
        clear hK K
        refine take_first (i := 7) (v := .tuple #[.agg (rdC fun i => rtN m (R i)).toArray, .slice A4 ln c4]) (some 33) rfl rfl (by kernel_rfl) (by kernel_rfl) (by kernel_rfl) (fun _ _ _ h => h) (Or.inl ⟨by rfl, fun _ _ => rfl⟩) (by assumption) ?_
        (try simp only [Act.put]); (try simp only [List.setIfInBounds_toArray]); (try simp only [List.set_cons_succ]); (try simp only [List.set_cons_zero])
        refine take_first (i := 8) (v := .agg (rdC fun i => rtN m (R i)).toArray) (some 41) rfl rfl (by kernel_rfl) (by kernel_rfl) (by kernel_rfl) (fun _ _ _ h => h) (Or.inl ⟨by rfl, fun _ _ => rfl⟩) (by assumption) ?_
        (try simp only [Act.put]); (try simp only [List.setIfInBounds_toArray]); (try simp only [List.set_cons_succ]); (try simp only [List.set_cons_zero])
        refine take_first (i := 9) (v := .slice A4 ln c4) (some 42) rfl rfl (by kernel_rfl) (by kernel_rfl) (by kernel_rfl) (fun _ _ _ h => h) (Or.inl ⟨by rfl, fun _ _ => rfl⟩) (by assumption) ?_
        (try simp only [Act.put]); (try simp only [List.setIfInBounds_toArray]); (try simp only [List.set_cons_succ]); (try simp only [List.set_cons_zero])
        have x6s : (wa.setCells g6 0 (rdC (fun i => rtN m (R i)))).cell? ⟨ba, off + k * 7 + 6, none⟩ = some (.int .i64 t) := (hcell.out _ (P5.st.r 0 rfl)).2.2.2.2.2.2
        have oA := own_slice (own_farAll g6 (fun b e => by have := (o3'.lt b e).1; omega) (rdC (fun i => rtN m (R i))) 0 wa o3')
        have oB := own_slice (own_farAll g6 (fun b e => by have := (o4.lt b e).1; have h9 : w3.drew.heap.size = w3.heap.size := rfl; omega) (rdC (fun i => rtN m (R i))) 0 wa o4)
        replace P5 := Lib.hid P5
        refine ready_storeR (i := 10) (by kernel_rfl) rfl (.tmp 6) (.tmp 41) none rfl rfl rfl rfl rfl hbxa x6s ?_
        clear hHeld x6a
        (try simp only [Act.put]); (try simp only [List.setIfInBounds_toArray]); (try simp only [List.set_cons_succ]); (try simp only [List.set_cons_zero])
        refine take_first (i := 11) (v := .slice A4 ln c4) (some 9) rfl rfl (by kernel_rfl) (by kernel_rfl) (by kernel_rfl) (fun _ _ _ h => h) (Or.inl ⟨by rfl, fun _ _ => rfl⟩) (by assumption) ?_
        (try simp only [Act.put]); (try simp only [List.setIfInBounds_toArray]); (try simp only [List.set_cons_succ]); (try simp only [List.set_cons_zero])
        refine wpAnyH_done (by kernel_rfl) ?_ _
        refine NoPanic.normal ?_
        generalize World.setCells _ _ _ _ = w5 at *
        have IT := ints_any w5 A3 A4 ln c3 c4 L oA oB hLn.out (by omega)
        replace IT := Lib.hid IT
        clear oA oB x6s hbxa hbxd P4 o3' o4 hba
        go_wp2_with fail
        (with_reducible refine (IT.out).mono ?_)
        rintro e w6 ⟨rfl, hb⟩
        replace P5 := Lib.hid (P5.out.below hb)
        go_wp2_with fail
        go_round
        case rel => exact ⟨k + 1, _, by go_num, by omega, P5⟩
        case measure => simp [intOf]; omega
    · obtain rfl : k = n := by omega
      have P := hP.out
      have hbd : DbAt (wr.drew.setCells w.heap.size 0 (rdC R)) g b (dbOf R) := P.db.drew.keptOff (setCells_grown _ _ _ _) P.ty3 (by decide) (by decide) P.n3g
      have hS := P.st.drew.setAllR 1 R rfl P.l3 (by
        intro q hq
        simp only [List.eraseIdx_cons_succ, List.eraseIdx_zero, List.tail_cons, List.mem_cons, List.not_mem_nil, or_false] at hq
        rw [hq]; exact fun e => P.n63 e.symm) _ rfl
      have hfin : Hid (PlayPost w (.returned (.tuple #[.pointer (some ⟨g, 0, none⟩), .agg (rdC R).toArray, .bool true])) (wr.drew.setCells w.heap.size 0 (rdC R))) := ⟨g, b, R, rfl, hbd, P.rd, P.ok, P.lb, hS.b⟩
      have hbx6 : Box wr.drew g6 (rdC R) := (P.st.box 0 rfl).drew
      have hbx3 : Box wr.drew w.heap.size (rdC (fun _ => rsZ)) := (P.st.box 1 rfl).drew
      have hbx9 := hS.box 1 rfl
      clear hbd hS P hP
      go_upto_region 20 with fail
      refine wp_region_noPanic ?_
      refine wp_region_held_drew (S := fun w' => True) (by kernel_rfl) trivial (fun hHeld => ?_)
      refine take_first (i := 0) (v := .pointer (some ⟨g, 0, none⟩)) (some 93) rfl rfl (by kernel_rfl) (by kernel_rfl) (by kernel_rfl) (fun _ _ _ h => h) (Or.inl ⟨by rfl, fun _ _ => rfl⟩) (by assumption) ?_
      (try simp only [Act.put]); (try simp only [List.setIfInBounds_toArray]); (try simp only [List.set_cons_succ]); (try simp only [List.set_cons_zero])
      refine take_first (i := 2) (v := .pointer (some ⟨g, 0, none⟩)) (some 2) rfl rfl (by kernel_rfl) (by kernel_rfl) (by kernel_rfl) (fun _ _ _ h => h) (Or.inl ⟨by rfl, fun _ _ => rfl⟩) (by assumption) ?_
      (try simp only [Act.put]); (try simp only [List.setIfInBounds_toArray]); (try simp only [List.set_cons_succ]); (try simp only [List.set_cons_zero])
      refine ready_loadR (i := 1) (by kernel_rfl) rfl (.tmp 6) (some 94) rfl rfl rfl rfl hbx6 trivial ?_
      (try simp only [Act.put]); (try simp only [List.setIfInBounds_toArray]); (try simp only [List.set_cons_succ]); (try simp only [List.set_cons_zero])
      refine ready_storeR (i := 3) (by kernel_rfl) rfl (.tmp 3) (.tmp 94) none rfl rfl rfl rfl rfl hbx3 trivial ?_
      (try simp only [Act.put]); (try simp only [List.setIfInBounds_toArray]); (try simp only [List.set_cons_succ]); (try simp only [List.set_cons_zero])
      refine take_first (i := 4) (v := .bool true) (some 4) rfl rfl (by kernel_rfl) (by kernel_rfl) (by kernel_rfl) (fun _ _ _ h => h) (Or.inl ⟨by rfl, fun _ _ => rfl⟩) (by assumption) ?_
      (try simp only [Act.put]); (try simp only [List.setIfInBounds_toArray]); (try simp only [List.set_cons_succ]); (try simp only [List.set_cons_zero])
      refine wpAnyH_done (by kernel_rfl) ?_ _
      refine NoPanic.normal ?_
      generalize World.setCells _ _ _ _ = w5 at *
      clear hbx6 hbx3
      go_wp2_with fail
      exact bodyPost_ret (v := .tuple #[.pointer (some ⟨g, 0, none⟩), .agg (rdC R).toArray, .bool true]) (resR3 rfl hbx9 rfl rfl rfl) rfl hfin.out

end Go.Proofs.Ytkmpmgojgidcgaa

namespace Go.Proofs.Ytkmpmgojgidcgaa
set_option linter.unusedVariables false
open Go.RowKit Go.Maps Go.Sort

theorem smT : ElemT Try.prog 52 55 (.agg #[.int .i64 0, .int .i64 0, .bool false]) 3 24 := ⟨Try.underlying52, by kernel_rfl, rfl, by omega⟩
def smL (x : La) : List Value := [.int .i64 x.o, .int .i64 x.s, .bool (x.a == 3600)]
def smV : List La → List Value
  | [] => []
  | x :: l => smL x ++ smV l
theorem smV_app (a b : List La) : smV (a ++ b) = smV a ++ smV b := by
  induction a with
  | nil => rfl
  | cons r l ih => simp only [List.cons_append, smV, ih, List.append_assoc]
theorem smL_one (x : La) : ∀ u ∈ smL x, u.oneCell' = true := by
  intro u hu
  simp only [smL, List.mem_cons, List.not_mem_nil, or_false] at hu
  rcases hu with e | e | e <;> rw [e] <;> rfl
def DDigPost (w : World) (N : Db) (e : Ending) (w' : World) : Prop :=
  ∃ A c, e = .returned (.slice A (orgs N).length c) ∧ w'.ownsRow w.heap.size 55 3 (.slice A (orgs N).length c) (orgs N).length (smV (allN N)) ∧ Below w.heap.size w w'
structure DigAt (w wr : World) (N : Db) (B : Option Addr) (d : Nat) (k : Nat) (v : Value) : Prop where
  og : wr.ownsRow w.heap.size 3 1 (.slice B (orgs N).length d) (orgs N).length ((orgs N).map encZ)
  own : wr.ownsRow w.heap.size 55 3 v k (smV ((allN N).take k))
  bel : Below w.heap.size w wr
theorem DigAt.below {w wr w' : World} {N : Db} {B : Option Addr} {d k : Nat} {v : Value} (h : DigAt w wr N B d k v) (hb : Below wr.heap.size wr w') : DigAt w w' N B d k v :=
  ⟨own_below h.og hb, own_below h.own hb, h.bel.trans (hb.mono h.bel.size)⟩
theorem DigAt.app {w wr w' : World} {N : Db} {B : Option Addr} {d k : Nat} {v v' : Value} (h : DigAt w wr N B d k v) {x : La} (hk : k < (orgs N).length) (hy : x = getX (N (orgs N)[k].toNat))
    (ho : w'.ownsRow w.heap.size 55 3 v' (k + 1) (smV ((allN N).take k) ++ smL x)) (hb : Below w.heap.size wr w') (hg : wr.grownBy w' v.ownBlock) : DigAt w w' N B d (k + 1) v' := by
  refine ⟨own_rowNe h.og hg (own_ne h.og h.own (by decide)), ?_, h.bel.trans hb⟩
  have hk2 : k < (allN N).length := by simpa [allN] using hk
  rw [List.take_succ_eq_append_getElem hk2, smV_app]
  have e2 : (allN N)[k] = x := by rw [hy]; simp [allN]
  rw [e2]
  simpa [smV] using ho

set_option maxRecDepth 100000 in
set_option maxHeartbeats 6400000 in
theorem ddigest_any (w : World) (g b : Nat) (N : Db) (h : DbAt w g b N) (hok : DbOk N) : Calls Try.prog 23 #[.pointer (some ⟨g, 0, none⟩)] w (DDigPost w N) := by
  have O := dorigins_any w g b N h
  have hlen := orgs_len N
  have hfin : Hid (∀ w' A c B d, DigAt w w' N B d (orgs N).length (.slice A (orgs N).length c) → DDigPost w N (.returned (.slice A (orgs N).length c)) w') := fun w' A c B d T => ⟨A, c, rfl, by have := T.own; rwa [List.take_of_length_le (by simp [allN])] at this, T.bel⟩
  obtain ⟨n, hn⟩ : ∃ n, (orgs N).length = n := ⟨_, rfl⟩
  rw [hn] at O hlen hfin
  replace O := Lib.hid O
  replace hok := Lib.hid hok
  replace hn := Lib.hid hn
  replace h := Lib.hid h
  go_enter Try.func23, Try.ntmps23
  go_wp2_with fail
  (with_reducible refine (O.out).mono ?_)
  rintro e w1 ⟨B, d, rfl, o14, hb⟩
  have hT : Hid (DigAt w w1 N B d 0 (.slice none 0 0)) := ⟨by rw [hn.out]; exact o14, World.ownsRow_nil _ _ _ _, hb⟩
  clear O o14 hb
  go_wp2_with fail
  go_loopw [3, 10] (fun v3 v9 wr => ∃ (k : Nat) (A : Option Addr) (c : Nat), v9 = .int .i64 k ∧ v3 = .slice A k c ∧ k ≤ n ∧ Hid (DigAt w wr N B d k (.slice A k c))) (fun _ v9 _ => n - (intOf v9).toNat)
  case atStart => exact ⟨0, none, 0, rfl, rfl, by omega, hT⟩
  case round =>
    clear hT
    obtain ⟨k, A, c, rfl, rfl, hk, hT⟩ := hrel
    by_cases hkn : k < n
    · have hkl : k < (orgs N).length := by rw [hn.out]; exact hkn
      have hm1 := (orgs_mem (N := N) (orgs N)[k]).1 (List.getElem_mem hkl)
      have T := hT.out
      have og := T.og
      rw [hn.out] at og
      obtain ⟨b14, off14, rfl, hz14⟩ := rd_at (own_slice og) (by simp only [List.length_map]; omega)
      have z14 := hz14 k _ (by rw [List.getElem?_map, List.getElem?_eq_getElem hkl]; rfl)
      obtain ⟨q, hq⟩ := Int.eq_ofNat_of_zero_le hm1.1.1
      rw [hq] at hm1 z14
      rw [Int.toNat_natCast] at hm1
      have hq64 : q < 64 := by have := hm1.1.2; omega
      obtain ⟨x, hNq⟩ := Option.isSome_iff_exists.1 hm1.2
      have hgx : getX (N (orgs N)[k].toNat) = x.x := by rw [hq, Int.toNat_natCast, hNq]; rfl
      have hxo := (hok.out q x hNq).2.1
      have hd := h.out.below T.bel
      obtain ⟨A1, c1, B1, d1, L1, la1⟩ := hd.el hq64 hNq
      have x0 := hd.cell
      have K1 := L1 wr (Below.refl _ _)
      have FL1 := hd_field x.x A1 c1 B1 d1 x.l
      unfold hdV at K1 FL1
      obtain ⟨y, hy⟩ : ∃ y, x.x = y := ⟨_, rfl⟩
      rw [hy] at K1 FL1 hgx hxo
      replace hgx := Lib.hid hgx
      have hb2 := below_new' wr (.cells #[.int .i64 y.o, .int .i64 y.s, .int .i64 y.a, .bool y.ov, .slice A1 y.adj.length c1, .slice B1 y.pre.length d1] 30)
      have T2 := T.below hb2
      have S2 := (St.start wr).new' #[.int .i64 y.o, .int .i64 y.s, .int .i64 y.a, .bool y.ov, .slice A1 y.adj.length c1, .slice B1 y.pre.length d1] 30 wr.heap.size _ rfl rfl
      clear hd og hz14 hm1 hq hNq L1 la1 hy hT hb2 T
      replace hxo := Lib.hid hxo
      replace T2 := Lib.hid T2
      go_upto_region 6 with fail
      clear z14 x0 K1 FL1
      generalize wr.alloc _ = w2 at *
      have a1 := S2.c 0 1 rfl rfl
      have a2 := S2.c 0 2 rfl rfl
      have hb3 := below_new' w2 (.cells #[.int .i64 y.o, .int .i64 y.s, .bool (y.a == 3600)] 55)
      have rd0 := Rd.lit w2 #[.int .i64 y.o, .int .i64 y.s, .bool (y.a == 3600)] 55
      have T3 := T2.out.below hb3
      have hsz := T3.bel.size
      have o3 := T3.own
      clear hb3 T2 S2
      replace T3 := Lib.hid T3
      rw [← hxo.out]
      clear hxo
      go_wp2_with (at_builtin; refine wpList_appB rfl smT (.tmp 21) (.tmp 29) rfl w.heap.size rfl o3 (m := 1) rfl (by simp) rd0 (smL_one y) (by simp only [maxLen]; omega) (by omega) hsz (k + 1) _ rfl rfl ?_; intro v6 w6 o6 hbel6 hg6 hv6)
      obtain ⟨A7, c7, rfl, -⟩ := own_rd o6
      have T4 := Lib.hid (T3.out.app hkl hgx.out.symm o6 hbel6 hg6)
      clear o6 hbel6 hg6 hv6 o3 rd0 T3 hsz a1 a2
      go_wp2_with fail
      go_round
      case rel => exact ⟨k + 1, A7, c7, by go_num, rfl, by omega, T4⟩
      case measure => simp [intOf]; omega
    · obtain rfl : k = n := by omega
      have hf := hfin.out _ _ _ _ _ hT.out
      replace hf := Lib.hid hf
      go_wp2_with fail
      go_ret
      exact hf.out

end Go.Proofs.Ytkmpmgojgidcgaa

namespace Go.Proofs.Ytkmpmgojgidcgaa
set_option linter.unusedVariables false
open Go.RowKit Go.Maps Go.Sort

theorem allR_la (R : Nat → Rs) : laL (allR R) = allN (dbOf R) := by
  unfold laL allR allK allN orgs
  rw [List.map_map, List.filter_map, List.map_map]
  have e : (List.range 64).filter ((fun i : Int => (dbOf R i.toNat).isSome) ∘ fun (i : Nat) => (i : Int)) = (List.range 64).filter fun i => (R i).is := by
    refine List.filter_congr fun i hi => ?_
    have h := List.mem_range.1 hi
    simp only [Function.comp, Int.toNat_natCast, dbOf]
    by_cases hr : (R i).is = true <;> simp [h, hr]
  rw [e]
  refine List.map_congr_left fun i hi => ?_
  obtain ⟨h1, h2⟩ := List.mem_filter.1 hi
  have h3 := List.mem_range.1 h1
  simp only [Function.comp, Int.toNat_natCast, dbOf]
  rw [if_pos ⟨h3, h2⟩]
  rfl
theorem allR_len (R : Nat → Rs) : (allR R).length = (orgs (dbOf R)).length := by
  have := congrArg List.length (allR_la R)
  simpa [laL, allN] using this
theorem allR_ok {w : World} {R : Nat → Rs} (h : RdOk w R) : ∀ s ∈ allR R, LxOk w s := fun s hs => by
  obtain ⟨i, hi, rfl⟩ := List.mem_map.1 hs
  exact h i (List.mem_range.1 (List.mem_filter.1 hi).1)

theorem sm_fields : Try.prog.underlying 55 = some (.struct (Try.prog.fieldsOf 55)) := by kernel_rfl
theorem sm_held : Try.prog.stoodInHeld 55 = false := by kernel_rfl
theorem sm_guard : Try.prog.eqGuardType Try.prog.depth 55 = false := by kernel_rfl
theorem sm_fl : ((Try.prog.fieldsOf 55).toList.map fun f => (f.name != "_", f.type, f.offset)) = [(true, 3, 0), (true, 3, 1), (true, 4, 2)] := by kernel_rfl
theorem eq_sm (w : World) (a b : Int) (c : Bool) : (Op.equalIn 10000 55 (.agg #[.int .i64 a, .int .i64 b, .bool c]) (.agg #[.int .i64 a, .int .i64 b, .bool c])).run Try.prog w = .ok true w := by
  rw [show (10000 : Nat) = 9999 + 1 from rfl, run_equalIn_agg w 9999 _ _ _ sm_fields sm_held]
  have h := sm_fl
  obtain ⟨f0, f1, f2, hf, n0, t0, o0, n1, t1, o1, n2, t2, o2⟩ : ∃ f0 f1 f2 : Field, (Try.prog.fieldsOf 55).toList = [f0, f1, f2] ∧ (f0.name != "_") = true ∧ f0.type = 3 ∧ f0.offset = 0 ∧ (f1.name != "_") = true ∧ f1.type = 3 ∧ f1.offset = 1 ∧ (f2.name != "_") = true ∧ f2.type = 4 ∧ f2.offset = 2 := by
    generalize (Try.prog.fieldsOf 55).toList = l at h
    rcases l with _ | ⟨f0, _ | ⟨f1, _ | ⟨f2, _ | ⟨f3, l⟩⟩⟩⟩
    all_goals simp at h
    obtain ⟨⟨a, b, c⟩, ⟨d, e, f⟩, g, i, j⟩ := h
    exact ⟨f0, f1, f2, rfl, by simpa using a, b, c, by simpa using d, e, f, by simpa using g, i, j⟩
  rw [hf]
  simp only [bne_iff_ne] at n0 n1 n2
  simp [Op.eqFields, n0, n1, n2, t0, t1, t2, o0, o1, o2, part, sizeOf]
  have E := fun (W : World) (a b : Int) => run_equalIn_int (P := Try.prog) W 9998 3 .i64 .i64 a b Try.underlying3
  have F := fun (W : World) (a b : Bool) => run_equalIn_bool (P := Try.prog) W 9998 4 a b Try.underlying4
  simp only [show (9998 + 1 : Nat) = 9999 from rfl] at E F
  simp [E, F, Result.andThen_ok]
theorem neq_sm (w : World) (a b : Int) (c : Bool) : (binOp .neq 55 (.agg #[.int .i64 a, .int .i64 b, .bool c]) (.agg #[.int .i64 a, .int .i64 b, .bool c])).run Try.prog w = .ok (.bool false) w := by rw [run_neq_struct, eq_sm]; rfl
theorem smV_get (l : List La) : ∀ (k : Nat) (hk : k < l.length) (j : Nat) (hj : j < 3), (smV l)[3 * k + j]? = (smL l[k])[j]? := by
  induction l with
  | nil => intro k hk; simp at hk
  | cons r l ih =>
    intro k hk j hj
    have h8 : (smL r).length = 3 := rfl
    cases k with
    | zero => simp only [smV, List.getElem_cons_zero]; rw [List.getElem?_append_left (by omega)]; simp
    | succ k =>
      simp only [smV, List.getElem_cons_succ]
      rw [List.getElem?_append_right (by omega), h8, show 3 * (k + 1) + j - 3 = 3 * k + j by omega]
      exact ih k (by simpa using hk) j hj
theorem smV_len (l : List La) : (smV l).length = l.length * 3 := by
  induction l with
  | nil => rfl
  | cons r l ih => simp only [smV, smL, List.length_append, List.length_cons, List.length_nil, ih]; omega

end Go.Proofs.Ytkmpmgojgidcgaa

namespace Go.Proofs.Ytkmpmgojgidcgaa
set_option linter.unusedVariables false
open Go.RowKit Go.Maps Go.Sort

set_option maxRecDepth 100000 in
set_option maxHeartbeats 12800000 in
theorem script33_law (w : World) (A : Option Addr) (n c : Nat) (l : List Sx) (hA : Rd w A (sxV l)) (hn : l.length = n) (hm : n ≤ maxLen) (hok : ∀ s ∈ l, LxOk w s.x ∧ (Lit.int .i64 s.t).wf = true) :
    Calls Try.prog 4 #[.slice A n c] w fun e w' => e = .returned (.bool true) ∧ Below w.heap.size w w' := by
  unfold maxLen at hm
  have hokb : Hid (∀ W, Below w.heap.size w W → ∀ s ∈ l, LxOk W s.x ∧ (Lit.int .i64 s.t).wf = true) := fun W hb s hs => by
    obtain ⟨h1, h2⟩ := hok s hs
    unfold LxOk at *
    exact ⟨h1.below hb, h2⟩
  have S := (St.start w).read hA
  clear hA hok
  replace hn := Lib.hid hn
  go_enter Try.func4, Try.ntmps4
  go_wp2_with fail
  (with_reducible refine (awake_any _).mono ?_)
  rintro e w1 ⟨rfl, hb⟩
  replace S := S.call hb
  clear hb
  have F := few33_any w1 A n c l (S.r 0 rfl) hn.out (by omega) (hokb.out _ S.b)
  unfold FewPost at F
  replace F := Lib.hid F
  go_wp2_with fail
  (with_reducible refine (F.out).mono ?_)
  rintro e w2 ⟨fv, rfl, hsm, hb⟩
  clear F
  replace S := S.call hb
  clear hb
  cases fv with
  | false =>
    go_wp2_with fail
    go_ret
    exact ⟨rfl, S.b⟩
  | true =>
  have PL := play_any w2 A n c l (S.r 0 rfl) hn.out (hsm rfl) (hokb.out _ S.b)
  unfold PlayPost at PL
  replace PL := Lib.hid PL
  clear hsm hokb hm
  go_wp2_with fail
  (with_reducible refine (PL.out).mono ?_)
  rintro e w3 ⟨g, b, R, rfl, dat, hrd, hdok, hlb, hb⟩
  replace S := S.call hb
  replace hrd := hrd.below hb
  clear PL hb hlb
  have hbZ : Box (w3.alloc (.cells Try.zeroCells46 46)) w3.heap.size (rdC (fun _ => rsZ)) := Box.new' w3 _ _ _ _ rfl (by rw [← rdC_zero])
  have hbb : Below w3.heap.size w3 ((w3.alloc (.cells Try.zeroCells46 46)).setCells w3.heap.size 0 (rdC R)) := below_setCells (Nat.le_refl _) _ _ _ (below_new' w3 _)
  have S5 := (S.new' Try.zeroCells46 46 w3.heap.size (rdC (fun _ => rsZ)) rfl (by rw [← rdC_zero])).setAllR 0 R rfl S.b.size (by simp) _ rfl
  replace dat := dat.below hbb
  replace hrd := hrd.below hbb
  go_upto_region 6 with (first | (refine wpList_storeR (R := fun _ => rsZ) rfl (.tmp 4) (.tmp 22) rfl rfl rfl ?hb ?_; (case hb => exact hbZ)))
  clear hbZ hbb S
  generalize World.setCells _ _ _ _ = w5 at *
  generalize w3.heap.size = g4 at *
  simp only [List.set_cons_zero] at S5
  have hrg : w5.drew.rangeAt g4 0 (rdC R) := (S5.drew.box 0 rfl).range
  have DA := fun W (h : Below w5.heap.size w5 W) => dall_any W g b (dbOf R) (dat.below h) hdok
  have RA := fun W => rall_any W R
  have hL2 := allR_len R
  obtain ⟨no, hno⟩ : ∃ no, (orgs (dbOf R)).length = no := ⟨_, rfl⟩
  have hno64 : no ≤ 64 := by rw [← hno]; exact orgs_len _
  unfold DAllPost at DA
  rw [hno] at DA hL2
  rw [hL2] at RA
  have hAk : Hid (∀ s ∈ allR R, LxOk w5 s) := allR_ok hrd
  have hAl : Hid (laL (allR R) = allN (dbOf R)) := allR_la R
  replace DA := Lib.hid DA
  replace RA := Lib.hid RA
  replace hno := Lib.hid hno
  replace hL2 := Lib.hid hL2
  replace dat := Lib.hid dat
  replace hrd := Lib.hid hrd
  replace hdok := Lib.hid hdok
  have hdrew : Hid (∀ wa, Below w5.drew.heap.size w5.drew wa → Below w5.heap.size w5 wa) := fun wa h => ⟨h.os, h.tape, h.output, h.size, h.block⟩
  refine wp_region_noPanic ?_
  refine wp_region_held_drew (S := fun w' => w'.rangeAt g4 0 (rdC R)) (by kernel_rfl) hrg (fun hHeld => ?_)
  refine take_first (i := 0) (v := .bool true) (some 24) rfl rfl (by kernel_rfl) (by kernel_rfl) (by kernel_rfl) (fun _ _ _ h => h) (Or.inl ⟨by rfl, fun _ _ => rfl⟩) (by assumption) ?_
  (try simp only [Act.put]); (try simp only [List.setIfInBounds_toArray]); (try simp only [List.set_cons_succ]); (try simp only [List.set_cons_zero])
  refine take_first (i := 1) (v := .bool false) (some 25) rfl rfl (by kernel_rfl) (by kernel_rfl) (by kernel_rfl) (fun _ _ _ h => h) (Or.inl ⟨by rfl, fun _ _ => rfl⟩) (by assumption) ?_
  (try simp only [Act.put]); (try simp only [List.setIfInBounds_toArray]); (try simp only [List.set_cons_succ]); (try simp only [List.set_cons_zero])
  refine take_first (i := 2) (v := .bool false) (some 26) rfl rfl (by kernel_rfl) (by kernel_rfl) (by kernel_rfl) (fun _ _ _ h => h) (Or.inl ⟨by rfl, fun _ _ => rfl⟩) (by assumption) ?_
  (try simp only [Act.put]); (try simp only [List.setIfInBounds_toArray]); (try simp only [List.set_cons_succ]); (try simp only [List.set_cons_zero])
  refine take_first (i := 3) (v := .pointer (some ⟨g, 0, none⟩)) (some 27) rfl rfl (by kernel_rfl) (by kernel_rfl) (by kernel_rfl) (fun _ _ _ h => h) (Or.inl ⟨by rfl, fun _ _ => rfl⟩) (by assumption) ?_
  (try simp only [Act.put]); (try simp only [List.setIfInBounds_toArray]); (try simp only [List.set_cons_succ]); (try simp only [List.set_cons_zero])
  refine take_loadR (i := 5) (R := R) (g := g4) (some 29) rfl rfl (by kernel_rfl) (by kernel_rfl) (by kernel_rfl) (fun _ _ _ h => h) rfl (.tmp 4) rfl rfl (fun _ h => h) (by assumption) ?_
  (try simp only [Act.put]); (try simp only [List.setIfInBounds_toArray]); (try simp only [List.set_cons_succ]); (try simp only [List.set_cons_zero])
  refine wpAnyH_ready (rs := [4]) (by kernel_rfl) (by simp) ?_
  refine AllReadyH.cons rfl (fun K hK => ?_) AllReadyH.nil
  go_simp
  (with_reducible refine (DA.out w5.drew ⟨rfl, rfl, rfl, Nat.le_refl _, fun _ _ => rfl⟩).mono ?_)
  rintro e wa ⟨A6, c6, ls, rfl, o6, hla, hlo, hba⟩
  dsimp only
  have Sa := S5.call (hdrew.out _ hba)
  refine hK.out _ _ (Sa.box 0 rfl).range (fun hHeld => ?_)
  clear hK K hHeld S5
  have hda := Lib.hid (dat.out.below (hdrew.out _ hba))
  have hra := Lib.hid (hrd.out.below (hdrew.out _ hba))
  clear dat hrd hdrew hba hAk
  replace hlo := Lib.hid hlo
  have hll : Hid (ls.length = no) := by
    have := congrArg List.length hla
    show _ = _
    rw [← hno.out]
    simpa [laL, allN] using this
  refine wpAnyH_ready (rs := [6]) (by kernel_rfl) (by simp) ?_
  refine AllReadyH.cons rfl (fun K hK => ?_) AllReadyH.nil
  go_simp
  (with_reducible refine (RA.out wa).mono ?_)
  rintro e wb ⟨A8, c8, rfl, o8, hbb⟩
  dsimp only
  have Sb := Sa.call hbb
  refine hK.out _ _ (Sb.box 0 rfl).range (fun hHeld => ?_)
  clear hK K hHeld Sa
  have hdb := Lib.hid (hda.out.below hbb)
  have hrb := Lib.hid (hra.out.below hbb)
  have SL := rsamelist_any wb A6 A8 no c6 c8 ls (allR R) (own_slice (own_below o6 hbb)) (own_slice o8) hll.out hL2.out (by omega) (fun s hs => (LaOwn.below (hlo.out s hs) hbb).at) (allR_ok hrb.out) (by rw [hla, hAl.out])
  replace SL := Lib.hid SL
  clear hda hra o6 o8 hbb hlo hla hll
  refine wpAnyH_ready (rs := [7]) (by kernel_rfl) (by simp) ?_
  refine AllReadyH.cons rfl (fun K hK => ?_) AllReadyH.nil
  go_simp
  (with_reducible refine SL.out.mono ?_)
  rintro e wc ⟨rfl, hbc⟩
  dsimp only
  have Sc := Sb.call hbc
  refine hK.out _ _ (Sc.box 0 rfl).range (fun hHeld => ?_)
  clear hK K Sb SL
  replace hdb := Lib.hid (hdb.out.below hbc)
  replace hrb := Lib.hid (hrb.out.below hbc)
  clear hbc
  refine take_first (i := 8) (v := .bool false) (some 32) rfl rfl (by kernel_rfl) (by kernel_rfl) (by kernel_rfl) (fun _ _ _ h => h) (Or.inl ⟨by rfl, fun _ _ => rfl⟩) (by assumption) ?_
  (try simp only [Act.put]); (try simp only [List.setIfInBounds_toArray]); (try simp only [List.set_cons_succ]); (try simp only [List.set_cons_zero])
  refine take_first (i := 9) (v := .bool false) (some 33) rfl rfl (by kernel_rfl) (by kernel_rfl) (by kernel_rfl) (fun _ _ _ h => h) (Or.inl ⟨by rfl, fun _ _ => rfl⟩) (by assumption) ?_
  (try simp only [Act.put]); (try simp only [List.setIfInBounds_toArray]); (try simp only [List.set_cons_succ]); (try simp only [List.set_cons_zero])
  refine wpAnyH_done (by kernel_rfl) ?_ _
  refine NoPanic.normal ?_
  clear hHeld DA
  have DG := ddigest_any wc g b (dbOf R) hdb.out hdok.out
  unfold DDigPost at DG
  rw [hno.out] at DG
  replace DG := Lib.hid DG
  go_wp2_with fail
  (with_reducible refine (DG.out).mono ?_)
  rintro e wd ⟨A9, c9, rfl, o9, hb⟩
  clear DG
  replace Sc := Sc.call hb
  replace hdb := Lib.hid (hdb.out.below hb)
  replace hrb := Lib.hid (hrb.out.below hb)
  clear hb
  have RA2 := RA.out wd
  replace RA2 := Lib.hid RA2
  clear RA
  go_wp2_with (first | (refine wpList_loadR (R := R) rfl (.tmp 4) rfl rfl ?hb ?_; (case hb => exact Sc.box 0 rfl)))
  (with_reducible refine (RA2.out).mono ?_)
  rintro e we ⟨Ae, ce, rfl, oe, hb⟩
  clear RA2
  replace Sc := Sc.call hb
  replace hdb := Lib.hid (hdb.out.below hb)
  replace hrb := Lib.hid (hrb.out.below hb)
  replace o9 := Lib.hid (own_slice (own_below o9 hb))
  replace oe := Lib.hid (own_slice oe)
  clear hb
  have e0 : ((no : Int) != (no : Int)) = false := by simp
  go_wp2_with fail
  go_loopw [8] (fun v8 wr => ∃ (i : Nat), v8 = .int .i64 i ∧ i ≤ no ∧ Hid (Rd wr A9 (smV (allN (dbOf R)))) ∧ Hid (Rd wr Ae (lxV (allR R))) ∧ Hid (DbAt wr g b (dbOf R)) ∧ Hid (RdOk wr R) ∧ St w wr [(g4, rdC R)] [(A, sxV l)]) (fun v8 _ => no - (intOf v8).toNat)
  case atStart => exact ⟨0, rfl, by omega, o9, oe, hdb, hrb, Sc⟩
  case round =>
    clear Sc hdb hrb o9 oe e0
    obtain ⟨i, rfl, hi, o9, oe, hdb, hrb, Sc⟩ := hrel
    by_cases hin : i < no
    · have hka : i < (allR R).length := by rw [hL2.out]; exact hin
      have hkn : i < (allN (dbOf R)).length := by unfold allN; rw [List.length_map, hno.out]; exact hin
      have hyy : (allN (dbOf R))[i] = (allR R)[i].y := by rw [← laL_get (allR R) i hka]; simp only [hAl.out]
      obtain ⟨be, off, rfl⟩ := lx_form oe.out (by omega)
      obtain ⟨x0, x1, x2, x3, x4, x5⟩ := lx_cells oe.out i hka _ rfl
      obtain ⟨b9, off9, rfl, hz⟩ := rd_at o9.out (by rw [smV_len]; omega)
      have y0 : wr.cell? ⟨b9, off9 + i * 3, none⟩ = some (.int .i64 (allN (dbOf R))[i].o) := hz _ _ (by have := smV_get (allN (dbOf R)) i hkn 0 (by omega); rw [Nat.add_zero, Nat.mul_comm] at this; exact this.trans rfl)
      have y1 : wr.cell? ⟨b9, off9 + i * 3 + 1, none⟩ = some (.int .i64 (allN (dbOf R))[i].s) := by rw [Nat.add_assoc]; exact hz _ _ (by have := smV_get (allN (dbOf R)) i hkn 1 (by omega); rw [Nat.mul_comm] at this; exact this.trans rfl)
      have y2 : wr.cell? ⟨b9, off9 + i * 3 + 2, none⟩ = some (.bool ((allN (dbOf R))[i].a == 3600)) := by rw [Nat.add_assoc]; exact hz _ _ (by have := smV_get (allN (dbOf R)) i hkn 2 (by omega); rw [Nat.mul_comm] at this; exact this.trans rfl)
      rw [hyy] at y0 y1 y2
      generalize (allR R)[i] = s at *
      obtain ⟨y, A2, c2, B2, d2⟩ := s
      simp only at x0 x1 x2 y0 y1 y2
      have NE := fun W => neq_sm W y.o y.s (y.a == 3600)
      have hG := sm_guard
      clear x3 x4 x5 hz hyy hka hkn
      go_wp2_with fail
      go_quiet (fail)
      go_wp2_with fail
      go_round
      case rel => exact ⟨i + 1, by go_num, by omega, Lib.hid (o9.out.drewN nq), Lib.hid (oe.out.drewN nq), Lib.hid (hdb.out.below (below_drewN (Below.refl _ _) nq)), Lib.hid (hrb.out.below (below_drewN (Below.refl _ _) nq)), Sc.drewN nq⟩
      case measure => simp [intOf]; omega
    · obtain rfl : i = no := by omega
      clear o9 oe
      go_wp2_with fail
      go_loopw [9] (fun v9 wr => ∃ (i : Nat), v9 = .int .i64 ((i : Int) - 1) ∧ i ≤ 66 ∧ Hid (DbAt wr g b (dbOf R)) ∧ Hid (RdOk wr R) ∧ St w wr [(g4, rdC R)] [(A, sxV l)]) (fun v9 _ => (65 - intOf v9).toNat)
      case atStart => exact ⟨0, by go_num, by omega, hdb, hrb, Sc⟩
      case round =>
        clear Sc hdb hrb
        obtain ⟨i, rfl, hi, hdb, hrb, Sc⟩ := hrel
        by_cases hin : i < 66
        · have hf0 := hdok.out.few
          by_cases hrng : 1 ≤ i ∧ i ≤ 64
          · obtain ⟨k, rfl⟩ : ∃ k, i = k + 1 := ⟨i - 1, by omega⟩
            have hk64 : k < 64 := by omega
            have hkk : ((k + 1 : Nat) : Int) - 1 = (k : Int) := by omega
            rw [hkk]
            clear hkk
            have hgo : getO (dbOf R) (k : Int) = if (R k).is = true then some ⟨(R k).x.y, (R k).l⟩ else none := by
              unfold getO dbOf
              rw [if_pos ⟨by omega, by omega⟩, Int.toNat_natCast]
              by_cases h : (R k).is = true <;> simp [h, hk64]
            have G := dget_any wr g b (dbOf R) (k : Int) (wf64 (by omega) (by omega)) hdb.out hf0
            have hla := hrb.out k hk64
            have hkI : (k : Int) < 64 := by omega
            have hkJ : (0 : Int) ≤ (k : Int) := by omega
            obtain ⟨is, his⟩ : ∃ z, (R k).is = z := ⟨_, rfl⟩
            unfold GetPost at G
            rw [hgo, his] at G
            cases is with
            | true =>
              simp only [if_true, getX, Option.isSome_some] at G
              obtain ⟨s, hs⟩ : ∃ s, (R k).x = s := ⟨_, rfl⟩
              rw [hs] at G hla
              have hat := fun j (hj : j < 7) => rdC_at R hk64 (j := j) hj
              replace hs := Lib.hid hs
              replace G := Lib.hid G
              clear hgo hf0
              go_wp2_with fail
              (with_reducible refine (G.out).mono ?_)
              rintro e w3 ⟨v3, rfl, hown, hb⟩
              clear G
              replace Sc := Sc.call hb
              replace hla : LxOk w3 s := LaAt.below hla hb
              replace hdb := hdb.out.below hb
              replace hrb := hrb.out.below hb
              obtain ⟨A7, c7, B7, d7, rfl, hL7⟩ := hown.open
              clear hown hb
              obtain ⟨y, A2, c2, B2, d2⟩ := s
              simp only at hL7
              unfold LxOk at hla
              simp only at hla
              have hbb := below_new' w3 (.cells #[.int .i64 y.o, .int .i64 y.s, .int .i64 y.a, .bool y.ov, .slice A7 y.adj.length c7, .slice B7 y.pre.length d7] 30)
              have T := Sc.new' #[.int .i64 y.o, .int .i64 y.s, .int .i64 y.a, .bool y.ov, .slice A7 y.adj.length c7, .slice B7 y.pre.length d7] 30 w3.heap.size _ rfl rfl
              have hx7 := hL7.out _ hbb
              have hla7 := hla.below hbb
              replace hdb := hdb.below hbb
              replace hrb := hrb.below hbb
              clear hbb hL7 Sc hla
              go_upto_region 21 with fail
              generalize World.alloc _ _ = w4 at *
              generalize w3.heap.size = g3 at *
              have c0 := T.c 1 k rfl (rdC_is R hk64)
              rw [his] at c0
              have EQ : Hid (∀ W, Below w4.heap.size w4 W → Calls Try.prog 24 #[laV y.o y.s y.a y.ov A7 y.adj.length c7 B7 y.pre.length d7, laV y.o y.s y.a y.ov A2 y.adj.length c2 B2 y.pre.length d2] W fun e w' => e = .returned (.bool true) ∧ Below W.heap.size W w') := fun W hb => by
                have := equal_any W _ _ y y (hx7.below hb) (hla7.below hb)
                rwa [equB_refl'] at this
              have z0 := cell_regrown (T.c 1 (64 + k * 7 + 0) rfl ((hat 0 (by omega)).trans (by rw [show R k = ⟨(R k).x, (R k).l, (R k).is⟩ from rfl, hs.out]; rfl)))
              have z1 := cell_regrown (T.c 1 (64 + k * 7 + 1) rfl ((hat 1 (by omega)).trans (by rw [show R k = ⟨(R k).x, (R k).l, (R k).is⟩ from rfl, hs.out]; rfl)))
              have z2 := cell_regrown (T.c 1 (64 + k * 7 + 2) rfl ((hat 2 (by omega)).trans (by rw [show R k = ⟨(R k).x, (R k).l, (R k).is⟩ from rfl, hs.out]; rfl)))
              have z3 := cell_regrown (T.c 1 (64 + k * 7 + 3) rfl ((hat 3 (by omega)).trans (by rw [show R k = ⟨(R k).x, (R k).l, (R k).is⟩ from rfl, hs.out]; rfl)))
              have z4 := cell_regrown (T.c 1 (64 + k * 7 + 4) rfl ((hat 4 (by omega)).trans (by rw [show R k = ⟨(R k).x, (R k).l, (R k).is⟩ from rfl, hs.out]; rfl)))
              have z5 := cell_regrown (T.c 1 (64 + k * 7 + 5) rfl ((hat 5 (by omega)).trans (by rw [show R k = ⟨(R k).x, (R k).l, (R k).is⟩ from rfl, hs.out]; rfl)))
              simp only [Nat.add_zero] at z0 z1 z2 z3 z4 z5
              clear hx7 hla7 hat hs his
              go_upto_region 22 with fail
              clear c0
              have a0 := cell_regrown (T.c 0 0 rfl rfl)
              have a1 := cell_regrown (T.c 0 1 rfl rfl)
              have a2 := cell_regrown (T.c 0 2 rfl rfl)
              have a3 := cell_regrown (T.c 0 3 rfl rfl)
              have a4 := cell_regrown (T.c 0 4 rfl rfl)
              have a5 := cell_regrown (T.c 0 5 rfl rfl)
              refine wp_region_quiet_below (by kernel_rfl) (by kernel_rfl) ?_
              repeat (go_big_quiet_step ((first | (go_at_call 24; with_reducible exact Calls.regrown_of (EQ.out _ (below_regrown _ _ _))))))
              refine wpQuiet_nil ?_
              intro _ hw'
              obtain ⟨⟨dq, osq⟩, hw''⟩ := hw'
              subst hw''
              replace T := T.call (below_regrown _ dq osq)
              replace hdb := hdb.below (below_regrown _ dq osq)
              replace hrb := hrb.below (below_regrown _ dq osq)
              generalize grow (redrawn _ dq) osq = w6 at *
              clear z0 z1 z2 z3 z4 z5 EQ
              clear a0 a1 a2 a3 a4 a5
              replace hdb := Lib.hid hdb
              replace hrb := Lib.hid hrb
              replace T := T.keepBoxes [(g4, rdC R)] (by simp)
              go_wp2_with fail
              go_round
              case rel => exact ⟨k + 1 + 1, by go_num, by omega, hdb, hrb, T⟩
              case measure => simp [intOf]; omega
            | false =>
              simp only [Bool.false_eq_true, if_false, getX, Option.isSome_none] at G
              replace G := Lib.hid G
              clear hgo hf0 hla
              go_wp2_with fail
              (with_reducible refine (G.out).mono ?_)
              rintro e w3 ⟨v3, rfl, hown, hb⟩
              clear G
              replace Sc := Sc.call hb
              replace hdb := hdb.out.below hb
              replace hrb := hrb.out.below hb
              obtain ⟨A7, c7, B7, d7, rfl, hL7⟩ := hown.open
              clear hown hb
              simp only [laZero, List.length_nil] at hL7 ⊢
              have hbb := below_new' w3 (.cells #[.int .i64 0, .int .i64 0, .int .i64 0, .bool false, .slice A7 0 c7, .slice B7 0 d7] 30)
              have T := Sc.new' #[.int .i64 0, .int .i64 0, .int .i64 0, .bool false, .slice A7 0 c7, .slice B7 0 d7] 30 w3.heap.size _ rfl rfl
              have hx7 := hL7.out _ hbb
              replace hdb := hdb.below hbb
              replace hrb := hrb.below hbb
              clear hbb hL7 Sc
              go_upto_region 21 with fail
              generalize World.alloc _ _ = w4 at *
              generalize w3.heap.size = g3 at *
              have c0 := T.c 1 k rfl (rdC_is R hk64)
              rw [his] at c0
              have EQ : Hid (∀ W, Below w4.heap.size w4 W → Calls Try.prog 24 #[laV 0 0 0 false A7 0 c7 B7 0 d7, laV 0 0 0 false none 0 0 none 0 0] W fun e w' => e = .returned (.bool true) ∧ Below W.heap.size W w') := fun W hb => by
                have := equal_any W _ _ laZero laZero (LaAt.below hx7 hb) (laZero_own W W.heap.size).at
                rwa [equB_refl'] at this
              clear hx7
              go_upto_region 22 with fail
              clear c0
              have a0 := cell_regrown (T.c 0 0 rfl rfl)
              have a1 := cell_regrown (T.c 0 1 rfl rfl)
              have a2 := cell_regrown (T.c 0 2 rfl rfl)
              have a3 := cell_regrown (T.c 0 3 rfl rfl)
              have a4 := cell_regrown (T.c 0 4 rfl rfl)
              have a5 := cell_regrown (T.c 0 5 rfl rfl)
              refine wp_region_quiet_below (by kernel_rfl) (by kernel_rfl) ?_
              repeat (go_big_quiet_step ((first | (go_at_call 24; with_reducible exact Calls.regrown_of (EQ.out _ (below_regrown _ _ _))))))
              refine wpQuiet_nil ?_
              intro _ hw'
              obtain ⟨⟨dq, osq⟩, hw''⟩ := hw'
              subst hw''
              replace T := T.call (below_regrown _ dq osq)
              replace hdb := hdb.below (below_regrown _ dq osq)
              replace hrb := hrb.below (below_regrown _ dq osq)
              generalize grow (redrawn _ dq) osq = w6 at *
              clear EQ
              clear a0 a1 a2 a3 a4 a5
              replace hdb := Lib.hid hdb
              replace hrb := Lib.hid hrb
              replace T := T.keepBoxes [(g4, rdC R)] (by simp)
              go_wp2_with fail
              go_round
              case rel => exact ⟨k + 1 + 1, by go_num, by omega, hdb, hrb, T⟩
              case measure => simp [intOf]; omega
          · obtain ⟨z, hz⟩ : ∃ z, (i : Int) - 1 = z := ⟨_, rfl⟩
            have hzi : Hid ((i : Int) = z + 1) := by show _ = _; omega
            have hgo : getO (dbOf R) z = none := by unfold getO; rw [if_neg (by omega)]
            have G := dget_any wr g b (dbOf R) z (WalkArith.wf_i64 (by omega)) hdb.out hf0
            have hzb : -1 ≤ z ∧ z ≤ 64 := by omega
            have hzc : z < 0 ∨ z = 64 := by omega
            unfold GetPost at G
            rw [hgo] at G
            simp only [getX, Option.isSome_none] at G
            replace G := Lib.hid G
            rw [hz]
            clear hgo hf0 hz hrng
            go_wp2_with fail
            (with_reducible refine (G.out).mono ?_)
            rintro e w3 ⟨v3, rfl, hown, hb⟩
            clear G
            replace Sc := Sc.call hb
            replace hdb := hdb.out.below hb
            replace hrb := hrb.out.below hb
            obtain ⟨A7, c7, B7, d7, rfl, hL7⟩ := hown.open
            clear hown hb
            simp only [laZero, List.length_nil] at hL7 ⊢
            have hbb := below_new' w3 (.cells #[.int .i64 0, .int .i64 0, .int .i64 0, .bool false, .slice A7 0 c7, .slice B7 0 d7] 30)
            have T := Sc.new' #[.int .i64 0, .int .i64 0, .int .i64 0, .bool false, .slice A7 0 c7, .slice B7 0 d7] 30 w3.heap.size _ rfl rfl
            have hx7 := hL7.out _ hbb
            replace hdb := hdb.below hbb
            replace hrb := hrb.below hbb
            clear hbb hL7 Sc
            go_upto_region 21 with fail
            generalize World.alloc _ _ = w4 at *
            generalize w3.heap.size = g3 at *
            have EQ : Hid (∀ W, Below w4.heap.size w4 W → Calls Try.prog 24 #[laV 0 0 0 false A7 0 c7 B7 0 d7, laV 0 0 0 false none 0 0 none 0 0] W fun e w' => e = .returned (.bool true) ∧ Below W.heap.size W w') := fun W hb => by
              have := equal_any W _ _ laZero laZero (LaAt.below hx7 hb) (laZero_own W W.heap.size).at
              rwa [equB_refl'] at this
            clear hx7
            rcases hzc with hzc | hzc
            · have hd1 : decide ((0 : Int) ≤ z) = false := by simp; omega
              go_upto_region 22 with fail
              have a0 := cell_regrown (T.c 0 0 rfl rfl)
              have a1 := cell_regrown (T.c 0 1 rfl rfl)
              have a2 := cell_regrown (T.c 0 2 rfl rfl)
              have a3 := cell_regrown (T.c 0 3 rfl rfl)
              have a4 := cell_regrown (T.c 0 4 rfl rfl)
              have a5 := cell_regrown (T.c 0 5 rfl rfl)
              refine wp_region_quiet_below (by kernel_rfl) (by kernel_rfl) ?_
              repeat (go_big_quiet_step ((first | (go_at_call 24; with_reducible exact Calls.regrown_of (EQ.out _ (below_regrown _ _ _))))))
              refine wpQuiet_nil ?_
              intro _ hw'
              obtain ⟨⟨dq, osq⟩, hw''⟩ := hw'
              subst hw''
              replace T := T.call (below_regrown _ dq osq)
              replace hdb := hdb.below (below_regrown _ dq osq)
              replace hrb := hrb.below (below_regrown _ dq osq)
              generalize grow (redrawn _ dq) osq = w6 at *
              clear EQ
              clear a0 a1 a2 a3 a4 a5
              replace hdb := Lib.hid hdb
              replace hrb := Lib.hid hrb
              replace T := T.keepBoxes [(g4, rdC R)] (by simp)
              go_wp2_with fail
              go_round
              case rel => exact ⟨i + 1, by rw [show ((i + 1 : Nat) : Int) - 1 = z + 1 by have := hzi.out; omega], by omega, hdb, hrb, T⟩
              case measure => simp [intOf]; omega
            · subst hzc
              go_upto_region 22 with fail
              have a0 := cell_regrown (T.c 0 0 rfl rfl)
              have a1 := cell_regrown (T.c 0 1 rfl rfl)
              have a2 := cell_regrown (T.c 0 2 rfl rfl)
              have a3 := cell_regrown (T.c 0 3 rfl rfl)
              have a4 := cell_regrown (T.c 0 4 rfl rfl)
              have a5 := cell_regrown (T.c 0 5 rfl rfl)
              refine wp_region_quiet_below (by kernel_rfl) (by kernel_rfl) ?_
              repeat (go_big_quiet_step ((first | (go_at_call 24; with_reducible exact Calls.regrown_of (EQ.out _ (below_regrown _ _ _))))))
              refine wpQuiet_nil ?_
              intro _ hw'
              obtain ⟨⟨dq, osq⟩, hw''⟩ := hw'
              subst hw''
              replace T := T.call (below_regrown _ dq osq)
              replace hdb := hdb.below (below_regrown _ dq osq)
              replace hrb := hrb.below (below_regrown _ dq osq)
              generalize grow (redrawn _ dq) osq = w6 at *
              clear EQ
              clear a0 a1 a2 a3 a4 a5
              replace hdb := Lib.hid hdb
              replace hrb := Lib.hid hrb
              replace T := T.keepBoxes [(g4, rdC R)] (by simp)
              go_wp2_with fail
              go_round
              case rel => exact ⟨i + 1, by rw [show ((i + 1 : Nat) : Int) - 1 = 64 + 1 by have := hzi.out; omega]; rfl, by omega, hdb, hrb, T⟩
              case measure => simp [intOf]
        · obtain rfl : i = 66 := by omega
          go_wp2_with fail
          go_ret
          exact ⟨rfl, Sc.b⟩

end Go.Proofs.Ytkmpmgojgidcgaa

namespace Go.Proofs.Ytkmpmgojgidcgaa.lsdbScript
open Go.ChangeShapes Go.WideShapes Go.ChangeAt Go.RowKit
set_option linter.unusedVariables false

set_option maxRecDepth 100000 in
theorem lifted (os : Os) (started : os.Started) (H : Type) (enc : TypeId × Value → H) :
    ReturnsInHanded {} Try.checked os 4 .any (Rows.lsdbScriptSpec.pre6 enc Try.prog Try.f4 Rows.lsdbScriptRow.domain false) (Rows.lsdbScriptSpec.post enc Try.prog Try.f4 false true false false) := by
  refine returnsInHanded_of_change (C := Try.checked) frame_own started (by kernel_rfl) Try.func4
    (ChangeSpec.witness6 (enc := enc) (C := Try.checked) false ⟨#[], #[.slice none 0 0], []⟩ 8 (by kernel_rfl) (by kernel_rfl) (by kernel_rfl) (by kernel_rfl)) ?_
  intro W base args ds gs before hval0 hW hcnd _
  have hval : ∀ (j : Nat) t v, Try.f4.params[j]? = some t → args[j]? = some v → Value.okWide Try.prog W .any base t v := hval0
  have hW' := hW
  obtain ⟨p, q, hA0, hV, rfl, hfz, hnd⟩ := hW
  have hA : DataW.TrodAll enc Try.prog W 0 (fun _ => true) true Try.f4.params.toList args.toList ds p := hA0
  rw [Try.params4] at hA hval
  obtain ⟨v0, vs0, d0, ds0, p0', q0', hargs, rfl, rfl, h0, r0⟩ := trodAll_cons hA
  obtain ⟨rfl, rfl, rfl⟩ := trodAll_nil r0
  obtain rfl : args = #[v0] := by cases args; simp_all
  obtain ⟨rfl, rfl⟩ := trodVars_none hV
  have k0 := h0
  have lt0 : ∀ x ∈ p0', x.block < W.heap.size := by obtain ⟨m, hm⟩ := k0; exact DataW.trod_lt m _ _ _ hm
  obtain ⟨A0, n0, c0, l0, rfl, hr0, hn0, hm0, hok0⟩ := arg_sx (hval 0 39 v0 rfl rfl) h0
  clear hA0 hval0
  refine (script33_law W A0 n0 c0 l0 hr0 hn0 hm0 hok0).mono fun e W' ⟨he, bel⟩ => ?_
  subst he
  exact ⟨_, rfl, _, _, _, [], _, [], hW', trodAll_mk1 (shut_bool Try.underlying4 _), (trodAll_cons_mk (Below.trod frame_laidOut (by kernel_rfl) (of_decide_eq_true (by kernel_rfl)) k0 bel lt0) trodAll_mk0), rfl, bel.frame _, fun h => by cases h⟩

theorem over : Rows.lsdbScriptRow.holds Try.pinned (OpenSpec.ofChange Rows.lsdbScriptSpec) :=
  OpenClaim.holds_of_wide 4 Try.f4 rfl rfl rfl rfl rfl rfl rfl ⟨rfl, rfl, rfl, rfl, rfl⟩ rfl rfl rfl rfl rfl (by kernel_rfl) Try.func4 (by kernel_rfl)
    (of_decide_eq_true (by kernel_rfl)) (by unfold Func.isWrapper; first | (rw [if_pos (by decide +kernel)]; kernel_rfl) | (rw [if_neg (by decide +kernel)]; exact ⟨rfl, rfl⟩))
    (fun os started H enc _ => lifted os started H enc)

theorem proved : Rows.LsdbScriptSaid := over
#print axioms proved
end Go.Proofs.Ytkmpmgojgidcgaa.lsdbScript
