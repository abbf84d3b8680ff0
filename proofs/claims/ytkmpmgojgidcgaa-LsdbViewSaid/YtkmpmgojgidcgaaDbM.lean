/-
  lsdb: the map of the held advertisements, as a function of the origin.
-/
import Derived.Test.YtkmpmgojgidcgaaSKeys
import Derived.Test.YtkmpmgojgidcgaaLaC
namespace Go.Proofs.Ytkmpmgojgidcgaa
set_option linter.unusedVariables false
open Go.RowKit Go.Maps Go.Sort

/-- An element reads as itself. -/
def hdR (v : Value) : Option (DataW Value × List MemPlace) := some (.held v, [])
theorem keyI : Keyed Try.prog 3 := int_keyed Try.underlying3
theorem wf64 {i : Int} (h0 : 0 ≤ i) (h1 : i ≤ 1000) : (Lit.int .i64 i).wf = true := WalkArith.wf_i64 (by omega)
theorem keyOfI {i : Int} (h : (Lit.int .i64 i).wf = true) : keyOf Try.prog 3 (.int .i64 i) = some (.int .i64 i) := keyOf_int_mk Try.underlying3 h
abbrev hdZ : Value := .agg #[.int .i64 0, .int .i64 0, .int .i64 0, .bool false, .slice none 0 0, .slice none 0 0, .int .i64 0]

/-- The datum of such a map. -/
structure DatIs (D : DataW Value) (M : Int → Option Value) : Prop where
  at_ : ∀ i z, D.atKey (.int .i64 i) (.held z) = .held ((M i).getD z)
  has_ : ∀ i, Maps.has D (.int .i64 i) = (M i).isSome
  small : ∀ i, (M i).isSome = true → 0 ≤ i ∧ i ≤ 63
theorem isKeyI (i : Int) : WideAt.IsKeyLit (.int .i64 i) := by first | trivial | exact ⟨⟩ | simp [WideAt.IsKeyLit]
theorem ne_keyI {i j : Int} (h : j ≠ i) : (Lit.int .i64 j) ≠ .int .i64 i := fun e => by injection e with _ e; exact h e
theorem DatIs.start : DatIs (.map []) (fun _ => none) := ⟨fun i z => rfl, fun i => rfl, fun i h => by simp at h⟩
theorem DatIs.put {D : DataW Value} {M : Int → Option Value} (h : DatIs D M) (hD : Maps.IsMap D) {i : Int} (h0 : 0 ≤ i) (h1 : i ≤ 63) (v : Value) : DatIs (D.put (.int .i64 i) (.held v)) (fun j => if j = i then some v else M j) := by
  refine ⟨fun j z => ?_, fun j => ?_, fun j hj => ?_⟩
  · by_cases e : j = i
    · subst e; rw [atKey_put_same hD (isKeyI j)]; simp
    · rw [atKey_put_other (ne_keyI e), h.at_, if_neg e]
  · by_cases e : j = i
    · subst e; rw [has_put_same hD (isKeyI j)]; simp
    · rw [has_put_other (ne_keyI e), h.has_]; simp only [if_neg e]
  · by_cases e : j = i
    · subst e; exact ⟨h0, h1⟩
    · simp only [if_neg e] at hj; exact h.small j hj
theorem DatIs.del {D : DataW Value} {M : Int → Option Value} (h : DatIs D M) (i : Int) : DatIs (D.del (.int .i64 i)) (fun j => if j = i then none else M j) := by
  refine ⟨fun j z => ?_, fun j => ?_, fun j hj => ?_⟩
  · by_cases e : j = i
    · subst e; rw [atKey_del_same]; simp
    · rw [atKey_del_other (ne_keyI e), h.at_, if_neg e]
  · by_cases e : j = i
    · subst e; rw [has_del_same]; simp
    · rw [has_del_other (ne_keyI e), h.has_]; simp only [if_neg e]
  · by_cases e : j = i
    · subst e; simp at hj
    · simp only [if_neg e] at hj; exact h.small j hj
/-- The keys in their order. -/
def keysL (M : Int → Option Value) : List Int := ((List.range 64).map fun (i : Nat) => (i : Int)).filter fun i => (M i).isSome
theorem keysL_sorted (M : Int → Option Value) : (keysL M).Pairwise (· < ·) := by
  unfold keysL
  refine List.Pairwise.filter _ ?_
  rw [List.pairwise_map]
  exact List.pairwise_lt_range.imp fun h => by omega
theorem keysL_mem {M : Int → Option Value} (hs : ∀ i, (M i).isSome = true → 0 ≤ i ∧ i ≤ 63) (i : Int) : i ∈ keysL M ↔ (M i).isSome = true := by
  unfold keysL
  rw [List.mem_filter, List.mem_map]
  constructor
  · rintro ⟨_, hk⟩; exact hk
  · intro h
    obtain ⟨h0, h1⟩ := hs i h
    exact ⟨⟨i.toNat, List.mem_range.2 (by omega), Int.toNat_of_nonneg h0⟩, h⟩
theorem keysL_len (M : Int → Option Value) : (keysL M).length ≤ 64 := by
  unfold keysL
  refine Nat.le_trans (List.length_filter_le _ _) ?_
  simp
section
variable {w w' : World} {b nn : Nat} {D : DataW Value} {M : Int → Option Value}
theorem keys_perm (hown : w.ownsMap Try.prog 3 hdR b nn D) (h : DatIs D M) : (keysL M).Perm (intKeys D) := by
  obtain ⟨es, hD, hpw, _⟩ := hown.entries keyI
  obtain ⟨es', hD', hko⟩ := hown.keysOf
  obtain rfl : es = es' := by rw [hD] at hD'; simpa using hD'
  subst hD
  refine perm_intKeys hpw (fun p hp => by obtain ⟨v, hv⟩ := hko p hp; obtain ⟨x, _, hx, _⟩ := Maps.keyOf_i64 Try.underlying3 hv; exact ⟨x, hx⟩) ?_ (fun x => by rw [keysL_mem h.small, h.has_])
  exact (keysL_sorted M).imp fun h e => by omega
/-- What a permutation of the keys sorts to. -/
theorem sort_keys (hown : w.ownsMap Try.prog 3 hdR b nn D) (h : DatIs D M) {ss : List Int} (hp : ss.Perm (intKeys D)) : ss.mergeSort (fun x y => decide (x ≤ y)) = keysL M := by
  have h1 : ss.mergeSort leI = (keysL M).mergeSort leI := mergeSort_of_perm_i (hp.trans (keys_perm hown h).symm)
  have h2 : (keysL M).mergeSort leI = keysL M := List.mergeSort_of_pairwise ((keysL_sorted M).imp fun h => by simp only [leI, decide_eq_true_eq]; omega)
  exact h1.trans h2
theorem size_keys (hown : w.ownsMap Try.prog 3 hdR b nn D) (h : DatIs D M) : Maps.size D ≤ 64 := by
  have hp := (keys_perm hown h).length_eq
  obtain ⟨es, rfl, _⟩ := hown.keysOf
  rw [show (intKeys (DataW.map es)).length = es.length by simp [intKeys]] at hp
  rw [Maps.size_eq, ← hp]
  exact keysL_len M
/-- Block b is the map M. -/
def MapIs (w : World) (b : Nat) (M : Int → Option Value) : Prop := ∃ D, w.ownsMap Try.prog 3 hdR b 64 D ∧ DatIs D M
theorem MapIs.of (hown : w.ownsMap Try.prog 3 hdR b nn D) (h : DatIs D M) : MapIs w b M := by
  refine ⟨D, ?_, h⟩
  have hs := size_keys hown h
  obtain ⟨es, clock, hb, F, _, rfl⟩ := hown
  exact ⟨es, clock, hb, F, by rwa [Maps.size_eq, length_read] at hs, rfl⟩
theorem MapIs.lt (h : MapIs w b M) : b < w.heap.size := by obtain ⟨D, h, _⟩ := h; exact h.lt
theorem MapIs.kept {row : Option Nat} (h : MapIs w b M) (hg : w.grownBy w' row) (hne : row ≠ some b) : MapIs w' b M := by
  obtain ⟨D, h, hd⟩ := h
  exact ⟨D, h.kept hg (fun e => hne e.symm), hd⟩
theorem MapIs.below (h : MapIs w b M) (hb : Below w.heap.size w w') : MapIs w' b M := h.kept (row := none) ⟨hb.os, hb.tape, hb.output, hb.size, fun k hk _ => hb.block k hk⟩ (by simp)
theorem MapIs.made (w : World) : MapIs (w.alloc (.map #[] 0)) w.heap.size (fun _ => none) := .of (World.ownsMap_made w _ _ _) .start
/-- No cell lies in the map's block. -/
theorem MapIs.no_cell (h : MapIs w b M) (off : Nat) (p : Option Nat) : w.cell? ⟨b, off, p⟩ = none := by
  obtain ⟨D, ⟨es, clock, hb, _⟩, _⟩ := h
  simp [World.cell?, hb]
theorem MapIs.small (h : MapIs w b M) {i : Int} (hi : (M i).isSome = true) : 0 ≤ i ∧ i ≤ 63 := by obtain ⟨D, _, hd⟩ := h; exact hd.small i hi
end

theorem hdZero (w : World) : (zeroValue 89).run Try.prog w = .ok hdZ w := Try.zeroValue89 w

section
variable {P : Program} {w : World} {b : Nat} {M : Int → Option Value} {ops : Array Oper} {rest : List Oper} {o : Oper} {a : Act} {Q : Exit → Act → World → Prop}
/-- 'v, ok := m[i]'. -/
theorem wp_map_ok (hg : o.guard = none) (m x : Operand) (hop : o.op = Op.lookup 81 m x true) (h : MapIs w b M) (hm : a.eval m = .map (some b)) (i : Int) (hx : a.eval x = .int .i64 i) (hi : (Lit.int .i64 i).wf = true)
    (hK : wpList Try.prog ops Q rest (a.put o.dst (.tuple #[(M i).getD hdZ, .bool (M i).isSome])) w) : wpList Try.prog ops Q (o :: rest) a w := by
  obtain ⟨D, hown, hd⟩ := h
  refine wpList_lookup_own_ok w hg m x 81 hop 3 89 keyI Try.underlying81 hdR (hdZero w) (.held hdZ) [] rfl b 64 D hm hown (.int .i64 i) (.int .i64 i) hx (keyOfI hi) ?_
  intro v ps hv
  obtain rfl : v = (M i).getD hdZ := by
    rw [hd.at_] at hv
    simp only [hdR, Option.some.injEq, Prod.mk.injEq, DataW.held.injEq] at hv
    exact hv.1
  rw [hd.has_]
  exact hK
/-- 'm[i]'. -/
theorem wp_map_at (hg : o.guard = none) (m x : Operand) (hop : o.op = Op.lookup 81 m x false) (h : MapIs w b M) (hm : a.eval m = .map (some b)) (i : Int) (hx : a.eval x = .int .i64 i) (hi : (Lit.int .i64 i).wf = true)
    (hK : wpList Try.prog ops Q rest (a.put o.dst ((M i).getD hdZ)) w) : wpList Try.prog ops Q (o :: rest) a w := by
  obtain ⟨D, hown, hd⟩ := h
  obtain ⟨v, ps, hrun, hv⟩ := hown.lookup keyI Try.underlying81 (hdZero w) (zd := .held hdZ) (zp := []) rfl (keyOfI hi)
  obtain rfl : v = (M i).getD hdZ := by
    rw [hd.at_] at hv
    simp only [hdR, Option.some.injEq, Prod.mk.injEq, DataW.held.injEq] at hv
    exact hv.1
  refine wpList_plain hg fun K' hK' => ?_
  unfold Oper.wp
  simp [execOp, hop, hm, hx, hrun, Result.andThen]
  exact hK' _ _ hK
/-- 'm[i] = v'. -/
theorem wp_map_put (hg : o.guard = none) (m x v : Operand) (hop : o.op = Op.mapUpdate 81 m x v) (h : MapIs w b M) (hm : a.eval m = .map (some b)) (i : Int) (hx : a.eval x = .int .i64 i) (h0 : 0 ≤ i) (h1 : i ≤ 63) (u : Value) (hv : a.eval v = u)
    (hK : ∀ w', MapIs w' b (fun j => if j = i then some u else M j) → w.grownBy w' (some b) → wpList Try.prog ops Q rest (a.put o.dst undef) w') : wpList Try.prog ops Q (o :: rest) a w := by
  obtain ⟨D, hown, hd⟩ := h
  exact wpList_mapUpdate_own w hg m x v 81 hop 3 89 keyI Try.underlying81 hdR b 64 D hm hown (by unfold maxLen; omega) _ u (.int .i64 i) hx hv (keyOfI (wf64 h0 (by omega))) (.held u) [] rfl
    fun w' hown' hg' => hK w' (.of hown' (hd.put hown.isMap h0 h1 u)) hg'
/-- 'delete(m, i)'. -/
theorem wp_map_del (hg : o.guard = none) (m x : Operand) (hop : o.op = Op.call { callee := Callee.builtin Builtin.delete, args := #[m, x], argTypes := #[81, 3] }) (h : MapIs w b M) (hm : a.eval m = .map (some b)) (i : Int) (hx : a.eval x = .int .i64 i) (hi : (Lit.int .i64 i).wf = true)
    (hK : ∀ w', MapIs w' b (fun j => if j = i then none else M j) → w.grownBy w' (some b) → wpList Try.prog ops Q rest (a.put o.dst (.tuple #[])) w') : wpList Try.prog ops Q (o :: rest) a w := by
  obtain ⟨D, hown, hd⟩ := h
  exact wpList_delete_own w hg m x 81 3 hop 89 keyI Try.underlying81 hdR b 64 D hm hown _ (.int .i64 i) hx (keyOfI hi)
    fun w' hown' ht => hK w' (.of hown' (hd.del i)) ht.grown
end

end Go.Proofs.Ytkmpmgojgidcgaa
