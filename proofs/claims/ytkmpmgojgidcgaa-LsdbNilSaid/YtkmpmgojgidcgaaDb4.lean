/-
  lsdb: what Tick does (plain), what its walk wants of memory.
-/
import Derived.Test.YtkmpmgojgidcgaaDb3
namespace Go.Proofs.Ytkmpmgojgidcgaa
set_option linter.unusedVariables false
open Go.RowKit Go.Maps Go.Sort

/-- n ticks of a held advertisement; whether it expired. -/
def tickH (n : Int) (h : Hd) : Option Hd × Bool :=
  if h.x.a < 3600 then
    if n < 3600 - h.x.a then (some ⟨{ h.x with a := h.x.a + n }, h.l⟩, false)
    else (if 60 ≤ n - (3600 - h.x.a) then none else some ⟨purgeX h.x, 60 - (n - (3600 - h.x.a))⟩, true)
  else (if h.l ≤ n then none else some ⟨h.x, h.l - n⟩, false)
def tickN (n : Int) (N : Db) : Db := fun i => match N i with | some h => (tickH n h).1 | none => none
def expH (n : Int) (o : Option Hd) : Bool := match o with | some h => (tickH n h).2 | none => false
/-- The origins in order. -/
def orgs (N : Db) : List Int := ((List.range 64).map fun (i : Nat) => (i : Int)).filter fun i => (N i.toNat).isSome
def tickL (n : Int) (N : Db) : List Int := (orgs N).filter fun i => expH n (N i.toNat)
/-- What holds of what is held. -/
def DbOk (N : Db) : Prop := ∀ i h, N i = some h → LaValid h.x ∧ h.x.o = (i : Int) ∧ 1 ≤ h.l ∧ h.l ≤ 60
theorem DbOk.few {N : Db} (h : DbOk N) : Few33 N := fun i x e => by
  have := (h i x e).1
  exact ⟨by have := this.2.2.2.1; omega, by have := this.2.2.2.2.1; omega⟩
theorem orgs_mem {N : Db} (i : Int) : i ∈ orgs N ↔ (0 ≤ i ∧ i < 64) ∧ (N i.toNat).isSome = true := by
  unfold orgs
  rw [List.mem_filter, List.mem_map]
  constructor
  · rintro ⟨⟨k, hk, rfl⟩, h⟩
    exact ⟨⟨by omega, by have := List.mem_range.1 hk; omega⟩, h⟩
  · rintro ⟨⟨h0, h1⟩, h⟩
    exact ⟨⟨i.toNat, List.mem_range.2 (by omega), Int.toNat_of_nonneg h0⟩, h⟩
theorem orgs_sorted (N : Db) : (orgs N).Pairwise (· < ·) := by
  unfold orgs
  refine List.Pairwise.filter _ ?_
  rw [List.pairwise_map]
  exact List.pairwise_lt_range.imp fun h => by omega
theorem orgs_len (N : Db) : (orgs N).length ≤ 64 := by
  unfold orgs
  refine Nat.le_trans (List.length_filter_le _ _) ?_
  simp
theorem keysL_orgs {w : World} {b : Nat} {M : Int → Option Value} {N : Db} (hm : MapIs w b M) (he : ∀ i : Nat, i < 64 → ElAt w (M (i : Int)) (N i)) : keysL M = orgs N := by
  unfold keysL orgs
  refine List.filter_congr fun i hi => ?_
  obtain ⟨k, hk, rfl⟩ := List.mem_map.1 hi
  have := he k (List.mem_range.1 hk)
  rw [Int.toNat_natCast]
  cases hM : M (k : Int) with
  | none =>
    rw [hM] at this
    cases hN : N k with
    | none => rfl
    | some x => rw [hN] at this; exact this.elim
  | some v =>
    rw [hM] at this
    cases hN : N k with
    | none => rw [hN] at this; exact this.elim
    | some x => rfl
/-- Behind k of the origins. -/
def midN (n : Int) (N : Db) (k : Nat) : Db := fun j => if (j : Int) ∈ (orgs N).take k then tickN n N j else N j
theorem midN_zero (n : Int) (N : Db) : midN n N 0 = N := by funext j; simp [midN]
theorem midN_end (n : Int) (N : Db) (hN : ∀ i, 64 ≤ i → N i = none) : midN n N (orgs N).length = tickN n N := by
  funext j
  unfold midN
  rw [List.take_length]
  by_cases h : (j : Int) ∈ orgs N
  · rw [if_pos h]
  · rw [if_neg h]
    have : N j = none := by
      cases hj : N j with
      | none => rfl
      | some x =>
        by_cases h6 : j < 64
        · exact absurd ((orgs_mem (N := N) (j : Int)).2 ⟨⟨by omega, by omega⟩, by rw [Int.toNat_natCast, hj]; rfl⟩) h
        · have := hN j (by omega); rw [hj] at this; cases this
    unfold tickN
    rw [this]
theorem midN_succ (n : Int) (N : Db) (k : Nat) (hk : k < (orgs N).length) (q : Nat) (hq : (orgs N)[k] = (q : Int)) : midN n N (k + 1) = fun j => if j = q then tickN n N q else midN n N k j := by
  funext j
  unfold midN
  rw [List.take_succ_eq_append_getElem hk, hq]
  by_cases h : j = q
  · subst h
    rw [if_pos (by simp), if_pos rfl]
  · rw [if_neg h]
    by_cases h2 : (j : Int) ∈ (orgs N).take k
    · rw [if_pos (by simp [h2]), if_pos h2]
    · rw [if_neg (by simp [h2]; omega), if_neg h2]
theorem midN_at (n : Int) (N : Db) (k : Nat) (hk : k < (orgs N).length) (q : Nat) (hq : (orgs N)[k] = (q : Int)) : midN n N k q = N q := by
  unfold midN
  rw [if_neg]
  intro hm
  have hp := orgs_sorted N
  obtain ⟨i, hi, e⟩ := List.getElem_of_mem hm
  rw [List.length_take] at hi
  rw [List.getElem_take] at e
  have := List.pairwise_iff_getElem.1 hp i k (by omega) hk (by omega)
  rw [e, hq] at this
  omega
theorem tickL_take (n : Int) (N : Db) (k : Nat) (hk : k < (orgs N).length) (q : Nat) (hq : (orgs N)[k] = (q : Int)) : ((orgs N).take (k + 1)).filter (fun i => expH n (N i.toNat)) = ((orgs N).take k).filter (fun i => expH n (N i.toNat)) ++ (if expH n (N q) = true then [(q : Int)] else []) := by
  rw [List.take_succ_eq_append_getElem hk, hq, List.filter_append]
  congr 1
  rw [List.filter_cons, Int.toNat_natCast]
  split <;> simp
/-! ### Memory -/
/-- What has turned since w0: the map in block b alone. -/
theorem grown_belowB {w0 w w' : World} {b B : Nat} (h : w0.grownBy w (some b)) (hb : Below B w w') (hB : w0.heap.size ≤ B) : w0.grownBy w' (some b) :=
  ⟨hb.os.trans h.os, hb.tape.trans h.tape, hb.output.trans h.output, Nat.le_trans h.size hb.size, fun k hk hne => (hb.block k (Nat.lt_of_lt_of_le hk hB)).trans (h.block k hk hne)⟩
theorem MapIs.belowB {w w' : World} {b B : Nat} {M : Int → Option Value} (h : MapIs w b M) (hb : Below B w w') (hB : b < B) : MapIs w' b M := by
  obtain ⟨D, ⟨es, clock, h1, h2⟩, hd⟩ := h
  exact ⟨D, ⟨es, clock, (hb.block b hB).trans h1, h2⟩, hd⟩
theorem own_belowB {w w' : World} {base : Nat} {e : TypeId} {size : Nat} {v : Value} {n : Nat} {xs : List Value} {B : Nat} (h : w.ownsRow base e size v n xs) (hb : Below B w w') (hB : ∀ k, v.ownBlock = some k → k < B) : w'.ownsRow base e size v n xs := by
  refine ⟨h.1, ?_⟩
  rcases h.2 with h2 | ⟨g, cap, cur, rfl, hg, hh, r⟩
  · exact .inl h2
  · exact .inr ⟨g, cap, cur, rfl, hg, (hb.block g (hB g rfl)).trans hh, r⟩
theorem own_rowB {w w' : World} {base : Nat} {e : TypeId} {size : Nat} {v : Value} {n : Nat} {xs : List Value} {b : Nat} (h : w.ownsRow base e size v n xs) (hg : w.grownBy w' (some b)) (hB : b < base) : w'.ownsRow base e size v n xs := by
  refine ⟨h.1, ?_⟩
  rcases h.2 with h2 | ⟨g, cap, cur, rfl, hgb, hh, r⟩
  · exact .inl h2
  · exact .inr ⟨g, cap, cur, rfl, hgb, (hg.block g (h.lt g rfl).2 (fun e => by injection e; omega)).trans hh, r⟩
/-- 'delete(m, i)', as an equation. -/
theorem MapIs.run_del {w : World} {b : Nat} {M : Int → Option Value} (h : MapIs w b M) {i : Int} (hi : (Lit.int .i64 i).wf = true) (ty : TypeId) :
    ∃ w', (Builtin.delete_ #[81, 3] ty #[.map (some b), .int .i64 i]).run Try.prog w = .ok (.tuple #[]) w' ∧ MapIs w' b (fun j => if j = i then none else M j) ∧ w.grownBy w' (some b) := by
  obtain ⟨D, hown, hd⟩ := h
  obtain ⟨w', hrun, r1, r2⟩ := hown.drop keyI Try.underlying81 (keyOfI hi) ty
  exact ⟨w', hrun, .of r1 (hd.del i), r2.grown⟩

end Go.Proofs.Ytkmpmgojgidcgaa
