/-
  The texts SKeys, DbM, Db1, Db2, Db3, Db4, Db5, Db6, DbA, DbO, DbNw, DbL, DbNl, Db8, Rd1, RdA, one after the other.
-/
import Derived.Test.YtnfldccaeibcpaaMem
import Derived.Test.YtnfldccaeibcpaaLay
import Derived.Test.YtnfldccaeibcpaaChecked
import Derived.Shelf.AbstractIn
import Derived.Maps.OwnSet
import Derived.Sort.OwnSortedInts
import Derived.Test.YtnfldccaeibcpaaQPConv0
import Derived.Test.YtnfldccaeibcpaaPurge
import Derived.StillTailTactics
import Derived.Deep.RegionLaw
import Derived.Test.YtnfldccaeibcpaaSameR
import Derived.Test.YtnfldccaeibcpaaLaArg
import Derived.Deep.MidRow
namespace Go.Proofs.Ytnfldccaeibcpaa
set_option linter.unusedVariables false
open Go.RowKit Go.Maps Go.Sort Go.Shelf

theorem sorts_in (m : Nat) : AnyZI.SortsIn Try.prog Try.lsorted_ren Fence.wide m :=
  ⟨fun blk off cap ss W hH hblk hsz => callsIn_wide.2 (AnyM.slices_Sort_int Try.lsort blk off cap ss W hH hblk hsz),
   fun p cap W => callsIn_wide.2 (AnyM.slices_Sort_int_none Try.lsort p cap W)⟩

set_option maxRecDepth 100000 in
set_option maxHeartbeats 1000000 in
/-- The keys of a map, sorted. -/
theorem origins_any {H : Type} (g b nn : Nat) (D0 : DataW H) (R : Value → Option (DataW H × List MemPlace)) (w : World) (hc : w.cell? ⟨g, 0, none⟩ = some (.map (some b))) (hown : w.ownsMap Try.prog 3 R b nn D0) (hmax : Maps.size D0 ≤ maxLen) (hbytes : Maps.size D0 * 8 ≤ 140737488355328) :
    Calls Try.prog 38 #[.pointer (some ⟨g, 0, none⟩)] w fun e w' => ∃ (v : Value) (ss : List Int), e = .returned v ∧ ss.Perm (intKeys D0) ∧
      w'.ownsRow w.heap.size 3 1 v ss.length ((ss.mergeSort (fun x y => decide (x ≤ y))).map encZ) ∧ (v = .slice none 0 0 ↔ ss = []) ∧ Below w.heap.size w w' := by
  refine (callsIn_wide (n := 6)).1 ?_
  have hbl := hown.lt
  have hseq : SeqGives Fence.wide 2 Try.prog 75 #[.pointer (some ⟨w.heap.size, 0, none⟩)] encZ (fun ss => ss.Perm (intKeys D0)) (Maps.size D0) (w.alloc (.cells #[.map (some b)] 101)) :=
    AnyZI.keys_gives (ρ := Try.lkeys_ren) { Try.lkeys with } Fence.wide _ trivial rfl (by omega) w.heap.size b nn D0 _ (by simp) (by simp) (by
      obtain ⟨es, clock, hb, Ft, hs, hD⟩ := hown
      exact ⟨es, clock, (Below.heap_alloc _ _ b hbl).trans hb, Ft, hs, hD⟩)
  have cK : ∀ mb W, CallsIn Fence.wide 5 Try.prog 57 #[.map mb] W fun e w' => e = .returned (.func (.func 75) #[] #[.pointer (some ⟨W.heap.size, 0, none⟩)]) ∧ w' = W.alloc (.cells #[.map mb] 101) := fun mb W => AnyZI.keys_in Try.lkeys Fence.wide 5 trivial rfl mb W
  have cS := AnyZI.sorted_in Try.lsorted Fence.wide 5 trivial trivial trivial trivial rfl (by omega) (sorts_in _) (enters_of Try.func44 (by kernel_rfl) rfl) 75 #[.pointer (some ⟨w.heap.size, 0, none⟩)] trivial (enters_of Try.func75 (by kernel_rfl) rfl) _ _ hmax hbytes _ hseq
  change CallsIn _ _ Try.prog 29 _ _ _ at cS
  have hfK : Fence.wide.fn 57 := trivial
  have hfS : Fence.wide.fn 29 := trivial
  clear hown hseq
  refine callsIn_of_wp Try.func38 rfl trivial ?_ rfl
  simp only [Try.ntmps38, List.size_toArray, List.length_cons, List.length_nil, Nat.reduceAdd, Nat.reduceSub, Array.replicate_succ, Array.replicate_zero, List.push_toArray, List.append_toArray, List.nil_append, List.cons_append]
  gi_wp2_with (first
    | (gi_at_call 57; refine (cK _ _).mono ?_; rintro e w' ⟨rfl, rfl⟩)
    | (gi_at_call 29; refine cS.mono ?_; rintro e w' ⟨v, ss, rfl, hS, hrow, hnil, hb⟩))
  go_ret
  exact ⟨v, ss, rfl, hS, ownsRow_base_a hrow (by simp), hnil, ((Below.refl _ w).alloc (Nat.le_refl _) _).trans (hb.mono (by simp))⟩

end Go.Proofs.Ytnfldccaeibcpaa

namespace Go.Proofs.Ytnfldccaeibcpaa
set_option linter.unusedVariables false
open Go.RowKit Go.Maps Go.Sort

/-- An element reads as itself. -/
def hdR (v : Value) : Option (DataW Value × List MemPlace) := some (.held v, [])
theorem keyI : Keyed Try.prog 3 := int_keyed Try.underlying3
theorem wf64 {i : Int} (h0 : 0 ≤ i) (h1 : i ≤ 1000) : (Lit.int .i64 i).wf = true := WalkArith.wf_i64 (by omega)
theorem keyOfI {i : Int} (h : (Lit.int .i64 i).wf = true) : keyOf Try.prog 3 (.int .i64 i) = some (.int .i64 i) := keyOf_int_mk Try.underlying3 h
abbrev hdZ : Value := .agg #[.int .i64 0, .int .i64 0, .int .i64 0, .bool false, .slice none 0 0, .slice none 0 0, .int .i64 0]

/-- The datum of such a map. -/
structure DatIs (D : DataW Value) (M : Int → Option Value) : Prop where
  at_ : ∀ i z, D.atKey (.int .i64 i) (.held z) = .held ((M i).getD z)
  has_ : ∀ i, Maps.has D (.int .i64 i) = (M i).isSome
  small : ∀ i, (M i).isSome = true → 0 ≤ i ∧ i ≤ 63
theorem isKeyI (i : Int) : WideAt.IsKeyLit (.int .i64 i) := by first | trivial | exact ⟨⟩ | simp [WideAt.IsKeyLit]
theorem ne_keyI {i j : Int} (h : j ≠ i) : (Lit.int .i64 j) ≠ .int .i64 i := fun e => by injection e with _ e; exact h e
theorem DatIs.start : DatIs (.map []) (fun _ => none) := ⟨fun i z => rfl, fun i => rfl, fun i h => by simp at h⟩
theorem DatIs.put {D : DataW Value} {M : Int → Option Value} (h : DatIs D M) (hD : Maps.IsMap D) {i : Int} (h0 : 0 ≤ i) (h1 : i ≤ 63) (v : Value) : DatIs (D.put (.int .i64 i) (.held v)) (fun j => if j = i then some v else M j) := by
  refine ⟨fun j z => ?_, fun j => ?_, fun j hj => ?_⟩
  · by_cases e : j = i
    · subst e; rw [atKey_put_same hD (isKeyI j)]; simp
    · rw [atKey_put_other (ne_keyI e), h.at_, if_neg e]
  · by_cases e : j = i
    · subst e; rw [has_put_same hD (isKeyI j)]; simp
    · rw [has_put_other (ne_keyI e), h.has_]; simp only [if_neg e]
  · by_cases e : j = i
    · subst e; exact ⟨h0, h1⟩
    · simp only [if_neg e] at hj; exact h.small j hj
theorem DatIs.del {D : DataW Value} {M : Int → Option Value} (h : DatIs D M) (i : Int) : DatIs (D.del (.int .i64 i)) (fun j => if j = i then none else M j) := by
  refine ⟨fun j z => ?_, fun j => ?_, fun j hj => ?_⟩
  · by_cases e : j = i
    · subst e; rw [atKey_del_same]; simp
    · rw [atKey_del_other (ne_keyI e), h.at_, if_neg e]
  · by_cases e : j = i
    · subst e; rw [has_del_same]; simp
    · rw [has_del_other (ne_keyI e), h.has_]; simp only [if_neg e]
  · by_cases e : j = i
    · subst e; simp at hj
    · simp only [if_neg e] at hj; exact h.small j hj
/-- The keys in their order. -/
def keysL (M : Int → Option Value) : List Int := ((List.range 64).map fun (i : Nat) => (i : Int)).filter fun i => (M i).isSome
theorem keysL_sorted (M : Int → Option Value) : (keysL M).Pairwise (· < ·) := by
  unfold keysL
  refine List.Pairwise.filter _ ?_
  rw [List.pairwise_map]
  exact List.pairwise_lt_range.imp fun h => by omega
theorem keysL_mem {M : Int → Option Value} (hs : ∀ i, (M i).isSome = true → 0 ≤ i ∧ i ≤ 63) (i : Int) : i ∈ keysL M ↔ (M i).isSome = true := by
  unfold keysL
  rw [List.mem_filter, List.mem_map]
  constructor
  · rintro ⟨_, hk⟩; exact hk
  · intro h
    obtain ⟨h0, h1⟩ := hs i h
    exact ⟨⟨i.toNat, List.mem_range.2 (by omega), Int.toNat_of_nonneg h0⟩, h⟩
theorem keysL_len (M : Int → Option Value) : (keysL M).length ≤ 64 := by
  unfold keysL
  refine Nat.le_trans (List.length_filter_le _ _) ?_
  simp
section
variable {w w' : World} {b nn : Nat} {D : DataW Value} {M : Int → Option Value}
theorem keys_perm (hown : w.ownsMap Try.prog 3 hdR b nn D) (h : DatIs D M) : (keysL M).Perm (intKeys D) := by
  obtain ⟨es, hD, hpw, _⟩ := hown.entries keyI
  obtain ⟨es', hD', hko⟩ := hown.keysOf
  obtain rfl : es = es' := by rw [hD] at hD'; simpa using hD'
  subst hD
  refine perm_intKeys hpw (fun p hp => by obtain ⟨v, hv⟩ := hko p hp; obtain ⟨x, _, hx, _⟩ := Maps.keyOf_i64 Try.underlying3 hv; exact ⟨x, hx⟩) ?_ (fun x => by rw [keysL_mem h.small, h.has_])
  exact (keysL_sorted M).imp fun h e => by omega
/-- What a permutation of the keys sorts to. -/
theorem sort_keys (hown : w.ownsMap Try.prog 3 hdR b nn D) (h : DatIs D M) {ss : List Int} (hp : ss.Perm (intKeys D)) : ss.mergeSort (fun x y => decide (x ≤ y)) = keysL M := by
  have h1 : ss.mergeSort leI = (keysL M).mergeSort leI := mergeSort_of_perm_i (hp.trans (keys_perm hown h).symm)
  have h2 : (keysL M).mergeSort leI = keysL M := List.mergeSort_of_pairwise ((keysL_sorted M).imp fun h => by simp only [leI, decide_eq_true_eq]; omega)
  exact h1.trans h2
theorem size_keys (hown : w.ownsMap Try.prog 3 hdR b nn D) (h : DatIs D M) : Maps.size D ≤ 64 := by
  have hp := (keys_perm hown h).length_eq
  obtain ⟨es, rfl, _⟩ := hown.keysOf
  rw [show (intKeys (DataW.map es)).length = es.length by simp [intKeys]] at hp
  rw [Maps.size_eq, ← hp]
  exact keysL_len M
/-- Block b is the map M. -/
def MapIs (w : World) (b : Nat) (M : Int → Option Value) : Prop := ∃ D, w.ownsMap Try.prog 3 hdR b 64 D ∧ DatIs D M
theorem MapIs.of (hown : w.ownsMap Try.prog 3 hdR b nn D) (h : DatIs D M) : MapIs w b M := by
  refine ⟨D, ?_, h⟩
  have hs := size_keys hown h
  obtain ⟨es, clock, hb, F, _, rfl⟩ := hown
  exact ⟨es, clock, hb, F, by rwa [Maps.size_eq, length_read] at hs, rfl⟩
theorem MapIs.lt (h : MapIs w b M) : b < w.heap.size := by obtain ⟨D, h, _⟩ := h; exact h.lt
theorem MapIs.kept {row : Option Nat} (h : MapIs w b M) (hg : w.grownBy w' row) (hne : row ≠ some b) : MapIs w' b M := by
  obtain ⟨D, h, hd⟩ := h
  exact ⟨D, h.kept hg (fun e => hne e.symm), hd⟩
theorem MapIs.below (h : MapIs w b M) (hb : Below w.heap.size w w') : MapIs w' b M := h.kept (row := none) ⟨hb.os, hb.tape, hb.output, hb.size, fun k hk _ => hb.block k hk⟩ (by simp)
theorem MapIs.made (w : World) : MapIs (w.alloc (.map #[] 0)) w.heap.size (fun _ => none) := .of (World.ownsMap_made w _ _ _) .start
/-- No cell lies in the map's block. -/
theorem MapIs.no_cell (h : MapIs w b M) (off : Nat) (p : Option Nat) : w.cell? ⟨b, off, p⟩ = none := by
  obtain ⟨D, ⟨es, clock, hb, _⟩, _⟩ := h
  simp [World.cell?, hb]
theorem MapIs.small (h : MapIs w b M) {i : Int} (hi : (M i).isSome = true) : 0 ≤ i ∧ i ≤ 63 := by obtain ⟨D, _, hd⟩ := h; exact hd.small i hi
end

theorem hdZero (w : World) : (zeroValue 111).run Try.prog w = .ok hdZ w := Try.zeroValue111 w

section
variable {P : Program} {w : World} {b : Nat} {M : Int → Option Value} {ops : Array Oper} {rest : List Oper} {o : Oper} {a : Act} {Q : Exit → Act → World → Prop}
/-- 'v, ok := m[i]'. -/
theorem wp_map_ok (hg : o.guard = none) (m x : Operand) (hop : o.op = Op.lookup 101 m x true) (h : MapIs w b M) (hm : a.eval m = .map (some b)) (i : Int) (hx : a.eval x = .int .i64 i) (hi : (Lit.int .i64 i).wf = true)
    (hK : wpList Try.prog ops Q rest (a.put o.dst (.tuple #[(M i).getD hdZ, .bool (M i).isSome])) w) : wpList Try.prog ops Q (o :: rest) a w := by
  obtain ⟨D, hown, hd⟩ := h
  refine wpList_lookup_own_ok w hg m x 101 hop 3 111 keyI Try.underlying101 hdR (hdZero w) (.held hdZ) [] rfl b 64 D hm hown (.int .i64 i) (.int .i64 i) hx (keyOfI hi) ?_
  intro v ps hv
  obtain rfl : v = (M i).getD hdZ := by
    rw [hd.at_] at hv
    simp only [hdR, Option.some.injEq, Prod.mk.injEq, DataW.held.injEq] at hv
    exact hv.1
  rw [hd.has_]
  exact hK
/-- 'm[i]'. -/
theorem wp_map_at (hg : o.guard = none) (m x : Operand) (hop : o.op = Op.lookup 101 m x false) (h : MapIs w b M) (hm : a.eval m = .map (some b)) (i : Int) (hx : a.eval x = .int .i64 i) (hi : (Lit.int .i64 i).wf = true)
    (hK : wpList Try.prog ops Q rest (a.put o.dst ((M i).getD hdZ)) w) : wpList Try.prog ops Q (o :: rest) a w := by
  obtain ⟨D, hown, hd⟩ := h
  obtain ⟨v, ps, hrun, hv⟩ := hown.lookup keyI Try.underlying101 (hdZero w) (zd := .held hdZ) (zp := []) rfl (keyOfI hi)
  obtain rfl : v = (M i).getD hdZ := by
    rw [hd.at_] at hv
    simp only [hdR, Option.some.injEq, Prod.mk.injEq, DataW.held.injEq] at hv
    exact hv.1
  refine wpList_plain hg fun K' hK' => ?_
  unfold Oper.wp
  simp [execOp, hop, hm, hx, hrun, Result.andThen]
  exact hK' _ _ hK
/-- 'm[i] = v'. -/
theorem wp_map_put (hg : o.guard = none) (m x v : Operand) (hop : o.op = Op.mapUpdate 101 m x v) (h : MapIs w b M) (hm : a.eval m = .map (some b)) (i : Int) (hx : a.eval x = .int .i64 i) (h0 : 0 ≤ i) (h1 : i ≤ 63) (u : Value) (hv : a.eval v = u)
    (hK : ∀ w', MapIs w' b (fun j => if j = i then some u else M j) → w.grownBy w' (some b) → wpList Try.prog ops Q rest (a.put o.dst undef) w') : wpList Try.prog ops Q (o :: rest) a w := by
  obtain ⟨D, hown, hd⟩ := h
  exact wpList_mapUpdate_own w hg m x v 101 hop 3 111 keyI Try.underlying101 hdR b 64 D hm hown (by unfold maxLen; omega) _ u (.int .i64 i) hx hv (keyOfI (wf64 h0 (by omega))) (.held u) [] rfl
    fun w' hown' hg' => hK w' (.of hown' (hd.put hown.isMap h0 h1 u)) hg'
/-- 'delete(m, i)'. -/
theorem wp_map_del (hg : o.guard = none) (m x : Operand) (hop : o.op = Op.call { callee := Callee.builtin Builtin.delete, args := #[m, x], argTypes := #[101, 3] }) (h : MapIs w b M) (hm : a.eval m = .map (some b)) (i : Int) (hx : a.eval x = .int .i64 i) (hi : (Lit.int .i64 i).wf = true)
    (hK : ∀ w', MapIs w' b (fun j => if j = i then none else M j) → w.grownBy w' (some b) → wpList Try.prog ops Q rest (a.put o.dst (.tuple #[])) w') : wpList Try.prog ops Q (o :: rest) a w := by
  obtain ⟨D, hown, hd⟩ := h
  exact wpList_delete_own w hg m x 101 3 hop 111 keyI Try.underlying101 hdR b 64 D hm hown _ (.int .i64 i) hx (keyOfI hi)
    fun w' hown' ht => hK w' (.of hown' (hd.del i)) ht.grown
end

end Go.Proofs.Ytnfldccaeibcpaa

namespace Go.Proofs.Ytnfldccaeibcpaa
set_option linter.unusedVariables false
open Go.RowKit Go.Maps Go.Sort

set_option maxRecDepth 100000 in
set_option maxHeartbeats 1600000 in
theorem dclone_any (w : World) (v : Value) (x : La) (h : LaAt w v x) (hb1 : x.adj.length ≤ 1000000) (hb2 : x.pre.length ≤ 1000000) :
    Calls Try.prog 36 #[v] w fun e w' => ∃ v', e = .returned v' ∧ LaOwn w' w.heap.size v' x ∧ Below w.heap.size w w' := by
  obtain ⟨A, c, B, d, rfl, rA, rB, h1, h2, h3, h4, hu⟩ := h
  have S := ((((St.start w).read rB).read rA).new' #[.int .i64 x.o, .int .i64 x.s, .int .i64 x.a, .bool x.ov, .slice A x.adj.length c, .slice B x.pre.length d] 45 w.heap.size _ rfl rfl).new' #[.int .i64 0, .int .i64 0, .int .i64 0, .bool false, .slice none 0 0, .slice none 0 0] 45 (w.heap.size + 1) _ (by simp) rfl
  have C1 := fun W (h : Rd W A (adV x.adj)) => clone_ad W A _ c x.adj h rfl hb1
  have C2 := fun W (h : Rd W B (pfV x.pre)) => clone_pf W B _ d x.pre h rfl hb2
  have hfin : ∀ W' A' c' B' d', W'.ownsRow w.heap.size 105 3 (.slice A' x.adj.length c') x.adj.length (adV x.adj) → W'.ownsRow w.heap.size 108 2 (.slice B' x.pre.length d') x.pre.length (pfV x.pre) → LaOwn W' w.heap.size (laV x.o x.s x.a x.ov A' x.adj.length c' B' x.pre.length d') x := fun W' A' c' B' d' a b => ⟨A', c', B', d', rfl, a, b, hu⟩
  clear rA rB hu
  replace C1 := Lib.hid C1
  replace C2 := Lib.hid C2
  replace hfin := Lib.hid hfin
  generalize x.adj.length = n at *
  generalize x.pre.length = m at *
  generalize x.ov = ov at *
  generalize x.o = o at *
  generalize x.s = s at *
  generalize x.a = ag at *
  have a0 := S.c 1 0 rfl rfl
  have a1 := S.c 1 1 rfl rfl
  have a2 := S.c 1 2 rfl rfl
  have a3 := S.c 1 3 rfl rfl
  have a4 := S.c 1 4 rfl rfl
  have a5 := S.c 1 5 rfl rfl
  go_enter Try.func36, Try.ntmps36
  go_wp2_with fail
  (with_reducible refine (C1.out _ (S.r 0 rfl)).mono ?_)
  rintro e w1 ⟨A1, c1, rfl, o1, hb⟩
  clear a0 a1 a2 a3 a4 a5
  replace S := S.call hb
  clear hb C1
  simp only [World.size_alloc] at o1
  have f1 := S.f 1 4 rfl rfl
  have a0 := S.c 1 0 rfl rfl
  have a1 := S.c 1 1 rfl rfl
  have a2 := S.c 1 2 rfl rfl
  have a3 := S.c 1 3 rfl rfl
  have a4 := S.c 1 4 rfl rfl
  have a5 := S.c 1 5 rfl rfl
  have S2 := S.set 1 4 (.slice A1 n c1) rfl (by simp) (Nat.le_refl _) (by simp) _ rfl
  replace o1 := ownsRow_setCell_below (a := ⟨w.heap.size, 4, none⟩) o1 (by simp only; omega) (.slice A1 n c1)
  have hsz := S2.b.size
  have hlt := S2.lt 0 rfl (by simp)
  go_wp2_with fail
  generalize w1.setCell ⟨w.heap.size, 4, none⟩ (.slice A1 n c1) = w2 at *
  (with_reducible refine (C2.out _ (S2.r 1 rfl)).mono ?_)
  rintro e w3 ⟨B1, d1, rfl, o2, hb⟩
  clear a0 a1 a2 a3 a4 a5
  clear f1 C2 S
  replace o1 := own_below o1 hb
  replace S2 := S2.call hb
  clear hb
  have f2 := S2.f 1 5 rfl rfl
  have e0 := S2.f 0 0 rfl rfl
  have e1 := S2.f 0 1 rfl rfl
  have e2 := S2.f 0 2 rfl rfl
  have e3 := S2.f 0 3 rfl rfl
  have e4 := S2.f 0 4 rfl rfl
  have e5 := S2.f 0 5 rfl rfl
  have a0 := S2.c 1 0 rfl rfl
  have a1 := S2.c 1 1 rfl rfl
  have a2 := S2.c 1 2 rfl rfl
  have a3 := S2.c 1 3 rfl rfl
  have a4 := S2.c 1 4 rfl rfl
  have a5 := S2.c 1 5 rfl rfl
  have b0 := S2.c 0 0 rfl rfl
  have b1 := S2.c 0 1 rfl rfl
  have b2 := S2.c 0 2 rfl rfl
  have b3 := S2.c 0 3 rfl rfl
  have b4 := S2.c 0 4 rfl rfl
  have b5 := S2.c 0 5 rfl rfl
  have S9 := (S2.set 1 5 (.slice B1 m d1) rfl (by simp) (Nat.le_refl _) (by simp) _ rfl).set6 o s ag ov (.slice A1 n c1) (.slice B1 m d1) (by omega) (by simp)
  have o3 := own_set6 (ownsRow_setCell_below (a := ⟨w.heap.size, 5, none⟩) o1 (by simp only; omega) (.slice B1 m d1)) (g := w.heap.size + 1) (by omega) (.int .i64 o) (.int .i64 s) (.int .i64 ag) (.bool ov) (.slice A1 n c1) (.slice B1 m d1)
  have o4 := own_set6 (ownsRow_setCell_below (a := ⟨w.heap.size, 5, none⟩) o2 (by simp only; omega) (.slice B1 m d1)) (g := w.heap.size + 1) (by omega) (.int .i64 o) (.int .i64 s) (.int .i64 ag) (.bool ov) (.slice A1 n c1) (.slice B1 m d1)
  have hf := hfin.out _ _ _ _ _ (own_mono o3 (by omega)) (own_mono o4 (by omega))
  have hb9 := S9.b
  go_wp2_with fail
  exact bodyPost_ret (v := laV o s ag ov A1 n c1 B1 m d1) (by simp [results, Try.results36, go_sem, b0, b1, b2, b3, b4, b5]) rfl ⟨_, rfl, hf, hb9⟩

/-! ### The database -/
/-- A held advertisement. -/
structure Hd where
  x : La
  l : Int
abbrev Db := Nat → Option Hd
abbrev hdV (x : La) (A : Option Addr) (c : Nat) (B : Option Addr) (d : Nat) (l : Int) : Value := .agg #[.int .i64 x.o, .int .i64 x.s, .int .i64 x.a, .bool x.ov, .slice A x.adj.length c, .slice B x.pre.length d, .int .i64 l]
/-- The block of a slice holds things of one type. -/
def TyA (w : World) (A : Option Addr) (n : Nat) (e : TypeId) : Prop := 0 < n → ∀ ad, A = some ad → ∃ cs fr, w.heap[ad.block]? = some (.cells cs e fr)
theorem TyA.keep {w w' : World} {A : Option Addr} {n : Nat} {e : TypeId} (h : TyA w A n e) (hk : ∀ ad, A = some ad → (w.heap[ad.block]?).isSome = true → (∃ cs fr, w.heap[ad.block]? = some (.cells cs e fr)) → w'.heap[ad.block]? = w.heap[ad.block]?) : TyA w' A n e := fun hn ad ha => by
  obtain ⟨cs, fr, e⟩ := h hn ad ha
  exact ⟨cs, fr, (hk ad ha (by rw [e]; rfl) ⟨cs, fr, e⟩).trans e⟩
theorem heap_lt {w : World} {k : Nat} {o : Obj} (h : w.heap[k]? = some o) : k < w.heap.size := (Array.getElem?_eq_some_iff.1 h).1
theorem TyA.below {w w' : World} {A : Option Addr} {n : Nat} {e : TypeId} (h : TyA w A n e) (hb : Below w.heap.size w w') : TyA w' A n e :=
  h.keep fun ad _ _ ⟨cs, fr, e⟩ => hb.block _ (heap_lt e)
/-- An advertisement whose slices lie in blocks of their types. -/
def LaTy (w : World) (x : La) (A : Option Addr) (c : Nat) (B : Option Addr) (d : Nat) : Prop := LaAt w (laV x.o x.s x.a x.ov A x.adj.length c B x.pre.length d) x ∧ TyA w A x.adj.length 105 ∧ TyA w B x.pre.length 108
theorem LaTy.below {w w' : World} {x : La} {A : Option Addr} {c : Nat} {B : Option Addr} {d : Nat} (h : LaTy w x A c B d) (hb : Below w.heap.size w w') : LaTy w' x A c B d := ⟨LaAt.below h.1 hb, h.2.1.below hb, h.2.2.below hb⟩
theorem LaTy.renum {w : World} {x : La} {A : Option Addr} {c : Nat} {B : Option Addr} {d : Nat} (h : LaTy w x A c B d) (o' s' a' : Int) (ov' : Bool) : LaTy w ⟨o', s', a', ov', x.adj, x.pre⟩ A c B d := ⟨LaAt.renum h.1 o' s' a' ov', h.2.1, h.2.2⟩
theorem own_ty {w : World} {base : Nat} {e : TypeId} {size : Nat} {A : Option Addr} {n c : Nat} {xs : List Value} (h : w.ownsRow base e size (.slice A n c) n xs) : TyA w A n e := fun hn ad ha => by
  rcases h.2 with ⟨h2, h3⟩ | ⟨g, cap, cur, h2, hgb, hh, r⟩
  · omega
  · injection h2 with h2 _ _
    rw [ha] at h2
    injection h2 with h2
    subst h2
    exact ⟨_, _, hh⟩
theorem LaOwn.ty {w : World} {base : Nat} {v : Value} {x : La} (h : LaOwn w base v x) : ∃ A c B d, v = laV x.o x.s x.a x.ov A x.adj.length c B x.pre.length d ∧ Hid (∀ W', Below w.heap.size w W' → LaTy W' x A c B d) := by
  have ha := h.at
  obtain ⟨A, c, B, d, rfl, o1, o2, hu⟩ := h
  exact ⟨A, c, B, d, rfl, fun W' hb => ⟨ha.below hb, (own_ty o1).below hb, (own_ty o2).below hb⟩⟩
/-- An element of the map. -/
def ElAt (w : World) : Option Value → Option Hd → Prop
  | none, none => True
  | some v, some h => ∃ A c B d, v = hdV h.x A c B d h.l ∧ LaTy w h.x A c B d
  | _, _ => False
theorem ElAt.below {w w' : World} {v : Option Value} {h : Option Hd} (he : ElAt w v h) (hb : Below w.heap.size w w') : ElAt w' v h := by
  match v, h, he with
  | none, none, _ => trivial
  | some v, some h, ⟨A, c, B, d, e, hl⟩ => exact ⟨A, c, B, d, e, hl.below hb⟩
/-- A row that is read does not lie in a map's block. -/
theorem Rd.keptMap {w w' : World} {A : Option Addr} {xs : List Value} {b : Nat} {M : Int → Option Value} (h : Rd w A xs) (hm : MapIs w b M) (hg : w.grownBy w' (some b)) : Rd w' A xs := by
  intro hn
  obtain ⟨ad, e, hb⟩ := h.block hn
  obtain ⟨ad', e', hc⟩ := h hn
  rw [e] at e'
  injection e' with e'
  subst e'
  refine ⟨ad, e, fun j u hu => ?_⟩
  have hcell := hc j u hu
  have hne : (ad.add j).block ≠ b := fun e2 => by
    have := hm.no_cell (ad.add j).off (ad.add j).spot
    rw [← e2] at this
    rw [show (⟨(ad.add j).block, (ad.add j).off, (ad.add j).spot⟩ : Addr) = ad.add j from rfl, hcell] at this
    cases this
  rw [World.cell?_of_block (hg.block _ (World.block_lt_of_cell? _ _ hcell) (fun e2 => hne (by injection e2)))]
  exact hcell
theorem LaAt.keptMap {w w' : World} {v : Value} {x : La} {b : Nat} {M : Int → Option Value} (h : LaAt w v x) (hm : MapIs w b M) (hg : w.grownBy w' (some b)) : LaAt w' v x := by
  obtain ⟨A, c, B, d, rfl, h1, h2, h3⟩ := h
  exact ⟨A, c, B, d, rfl, h1.keptMap hm hg, h2.keptMap hm hg, h3⟩
theorem LaTy.keptMap {w w' : World} {x : La} {A : Option Addr} {c : Nat} {B : Option Addr} {d : Nat} {b : Nat} {M : Int → Option Value} (h : LaTy w x A c B d) (hm : MapIs w b M) (hg : w.grownBy w' (some b)) : LaTy w' x A c B d := by
  have key : ∀ {A : Option Addr} {n : Nat} {e : TypeId}, TyA w A n e → TyA w' A n e := fun {A n e} h => h.keep fun ad _ _ ⟨cs, fr, e2⟩ => hg.block _ (heap_lt e2) (fun e3 => by
    injection e3 with e3
    obtain ⟨D, ⟨es, clock, hb, _⟩, _⟩ := hm
    rw [e3, hb] at e2
    cases e2)
  exact ⟨LaAt.keptMap h.1 hm hg, key h.2.1, key h.2.2⟩
theorem ElAt.keptMap {w w' : World} {v : Option Value} {h : Option Hd} {b : Nat} {M : Int → Option Value} (he : ElAt w v h) (hm : MapIs w b M) (hg : w.grownBy w' (some b)) : ElAt w' v h := by
  match v, h, he with
  | none, none, _ => trivial
  | some v, some h, ⟨A, c, B, d, e, hl⟩ => exact ⟨A, c, B, d, e, hl.keptMap hm hg⟩
/-- The database in block g, its map in block b. -/
structure DbAt (w : World) (g b : Nat) (N : Db) : Prop where
  ex : ∃ M, MapIs w b M ∧ ∀ i : Nat, i < 64 → ElAt w (M (i : Int)) (N i)
  cell : w.cell? ⟨g, 0, none⟩ = some (.map (some b))
theorem DbAt.below {w w' : World} {g b : Nat} {N : Db} (h : DbAt w g b N) (hb : Below w.heap.size w w') : DbAt w' g b N := by
  obtain ⟨⟨M, hm, he⟩, hc⟩ := h
  exact ⟨⟨M, hm.below hb, fun i hi => (he i hi).below hb⟩, cell_later hb hc⟩
theorem DbAt.lt {w : World} {g b : Nat} {N : Db} (h : DbAt w g b N) : g < w.heap.size ∧ b < w.heap.size := by
  obtain ⟨⟨M, hm, _⟩, hc⟩ := h
  exact ⟨World.block_lt_of_cell? _ _ hc, hm.lt⟩
theorem DbAt.ne {w : World} {g b : Nat} {N : Db} (h : DbAt w g b N) : g ≠ b := fun e => by
  obtain ⟨⟨M, hm, _⟩, hc⟩ := h
  rw [e, hm.no_cell] at hc
  cases hc
/-- Beside a map that was written: another element there. -/
theorem DbAt.put {w w' : World} {g b : Nat} {N : Db} {M : Int → Option Value} (hm : MapIs w b M) (he : ∀ i : Nat, i < 64 → ElAt w (M (i : Int)) (N i)) (hc : w.cell? ⟨g, 0, none⟩ = some (.map (some b))) (hgb : g ≠ b) (k : Nat) (hk : k < 64) (v : Option Value) (h : Option Hd) (hv : ElAt w v h)
    (hm' : MapIs w' b (fun j => if j = (k : Int) then v else M j)) (hg : w.grownBy w' (some b)) : DbAt w' g b (fun i => if i = k then h else N i) := by
  refine ⟨⟨_, hm', fun i hi => ?_⟩, ?_⟩
  · by_cases e : i = k
    · subst e; simp only [if_true]; exact hv.keptMap hm hg
    · have e' : ¬ (i : Int) = (k : Int) := by omega
      simp only [if_neg e, if_neg e']
      exact (he i hi).keptMap hm hg
  · rw [World.cell?_of_block (a := ⟨g, 0, none⟩) (hg.block g (World.block_lt_of_cell? _ _ hc) (fun e => hgb (by injection e)))]
    exact hc

set_option maxRecDepth 100000 in
set_option maxHeartbeats 1600000 in
/-- New. -/
theorem dnew_any (w : World) : Calls Try.prog 15 #[] w fun e w' => e = .returned (.pointer (some ⟨w.heap.size + 1, 0, none⟩)) ∧ DbAt w' (w.heap.size + 1) w.heap.size (fun _ => none) ∧ Below w.heap.size w w' := by
  have hfin : DbAt ((w.alloc (.map #[] 0)).alloc (.cells #[.map (some w.heap.size)] 103)) (w.heap.size + 1) w.heap.size (fun _ => none) := by
    have hb := below_new' (w.alloc (.map #[] 0)) (.cells #[.map (some w.heap.size)] 103)
    refine ⟨⟨_, (MapIs.made w).below hb, fun i hi => trivial⟩, ?_⟩
    simp
  have hbl : Below w.heap.size w ((w.alloc (.map #[] 0)).alloc (.cells #[.map (some w.heap.size)] 103)) := (below_new' w _).trans ((below_new' _ _).mono (by simp))
  have hmm := @run_makeMap Try.prog
  replace hfin := Lib.hid hfin
  go_enter Try.func15, Try.ntmps15
  go_wp2_with fail
  go_ret
  exact ⟨rfl, hfin.out, hbl⟩

end Go.Proofs.Ytnfldccaeibcpaa

namespace Go.Proofs.Ytnfldccaeibcpaa
set_option linter.unusedVariables false
open Go.RowKit Go.Maps Go.Sort

/-! ### The look-ups as equations, for regions that draw their order -/
theorem MapIs.run_ok {w : World} {b : Nat} {M : Int → Option Value} (h : MapIs w b M) {i : Int} (hi : (Lit.int .i64 i).wf = true) :
    (Instr.lookup 101 (.map (some b)) (.int .i64 i) true).run Try.prog w = .ok (.tuple #[(M i).getD hdZ, .bool (M i).isSome]) w := by
  obtain ⟨D, hown, hd⟩ := h
  obtain ⟨v, ps, hrun, hv⟩ := hown.look_ok keyI Try.underlying101 (hdZero w) (zd := .held hdZ) (zp := []) rfl (keyOfI hi)
  obtain rfl : v = (M i).getD hdZ := by
    rw [hd.at_] at hv
    simp only [hdR, Option.some.injEq, Prod.mk.injEq, DataW.held.injEq] at hv
    exact hv.1
  rw [hd.has_] at hrun
  exact hrun
theorem MapIs.run_at {w : World} {b : Nat} {M : Int → Option Value} (h : MapIs w b M) {i : Int} (hi : (Lit.int .i64 i).wf = true) :
    (Instr.lookup 101 (.map (some b)) (.int .i64 i) false).run Try.prog w = .ok ((M i).getD hdZ) w := by
  obtain ⟨D, hown, hd⟩ := h
  obtain ⟨v, ps, hrun, hv⟩ := hown.lookup keyI Try.underlying101 (hdZero w) (zd := .held hdZ) (zp := []) rfl (keyOfI hi)
  obtain rfl : v = (M i).getD hdZ := by
    rw [hd.at_] at hv
    simp only [hdR, Option.some.injEq, Prod.mk.injEq, DataW.held.injEq] at hv
    exact hv.1
  exact hrun
theorem MapIs.drewN {w : World} {b : Nat} {M : Int → Option Value} (h : MapIs w b M) (n : Nat) : MapIs (w.drewN n) b M := h
theorem MapIs.drew {w : World} {b : Nat} {M : Int → Option Value} (h : MapIs w b M) : MapIs w.drew b M := h

theorem eqlSome (bm : Nat) (w : World) : (binOp .eql 101 (.map (some bm)) (.map none)).run Try.prog w = .ok (.bool false) w := by kernel_rfl
theorem below_row {w w' : World} (hb : Below w.heap.size w w') (row : Option Nat) : w.grownBy w' row := ⟨hb.os, hb.tape, hb.output, hb.size, fun k hk _ => hb.block k hk⟩
/-- 'm[i] = v', as an equation. -/
theorem MapIs.run_put {w : World} {b : Nat} {M : Int → Option Value} (h : MapIs w b M) {i : Int} (h0 : 0 ≤ i) (h1 : i ≤ 63) (u : Value) :
    ∃ w', (Instr.mapUpdate 101 (.map (some b)) (.int .i64 i) u).run Try.prog w = .ok () w' ∧ MapIs w' b (fun j => if j = i then some u else M j) ∧ w.grownBy w' (some b) := by
  obtain ⟨D, hown, hd⟩ := h
  obtain ⟨w', hrun, r1, r2⟩ := hown.update keyI Try.underlying101 (by unfold maxLen; omega) (keyOfI (wf64 h0 (by omega))) (val := u) (d := .held u) (ps := []) rfl
  exact ⟨w', hrun, .of r1 (hd.put hown.isMap h0 h1 u), r2⟩

/-- What Install does: the database, the result, the error. -/
noncomputable def instR (N : Db) (a : La) : Int := if vB a = true then match N a.o.toNat with | some h => if newI a h.x = 0 then 2 else if newI a h.x = -1 then 3 else 1 | none => 1 else 0
noncomputable def instE (a : La) : Int := if vB a = true then 0 else 1
noncomputable def instN (N : Db) (a : La) : Db := if vB a = true ∧ instR N a = 1 then fun i => if i = a.o.toNat then some ⟨a, 60⟩ else N i else N
def InstPost (w : World) (g b : Nat) (N : Db) (a : La) (e : Ending) (w' : World) : Prop :=
  e = .returned (.tuple #[.int .i64 (instR N a), .int .i64 (instE a)]) ∧ DbAt w' g b (instN N a) ∧ w.grownBy w' (some b)

set_option maxRecDepth 100000 in
set_option maxHeartbeats 6400000 in
theorem dinstall_any (w : World) (g b : Nat) (N : Db) (v : Value) (a : La) (h : DbAt w g b N) (hv : LaAt w v a) : Calls Try.prog 18 #[.pointer (some ⟨g, 0, none⟩), v] w (InstPost w g b N a) := by
  obtain ⟨A, c, B, d, rfl, hl⟩ := hv.opened
  clear hv
  have S := (St.start w).new' #[.int .i64 a.o, .int .i64 a.s, .int .i64 a.a, .bool a.ov, .slice A a.adj.length c, .slice B a.pre.length d] 45 w.heap.size _ rfl rfl
  have V := fun W hb => valid_at W _ a (hl.below hb)
  have hpost : Hid (∀ r er N' e w', instR N a = r → instE a = er → instN N a = N' → e = Ending.returned (.tuple #[.int .i64 r, .int .i64 er]) → DbAt w' g b N' → w.grownBy w' (some b) → InstPost w g b N a e w') := fun r er N' e w' h1 h2 h3 h4 h5 h6 => by subst h1 h2 h3; exact ⟨h4, h5, h6⟩
  rcases hvb : vB a with _ | _
  · have e1 : instR N a = 0 := by unfold instR; rw [hvb, if_neg (by simp)]
    have e2 : instE a = 1 := by unfold instE; rw [hvb, if_neg (by simp)]
    have e3 : instN N a = N := by unfold instN; rw [hvb, if_neg (by simp)]
    rw [hvb] at V
    replace V := Lib.hid V
    have hfin : Hid (∀ w', Below w.heap.size w w' → DbAt w' g b N ∧ w.grownBy w' (some b)) := fun w' hb => ⟨h.below hb, ⟨hb.os, hb.tape, hb.output, hb.size, fun k hk _ => hb.block k hk⟩⟩
    replace e1 := Lib.hid e1
    replace e2 := Lib.hid e2
    replace e3 := Lib.hid e3
    clear h hl hvb
    have a0 := S.c 0 0 rfl rfl
    have a1 := S.c 0 1 rfl rfl
    have a2 := S.c 0 2 rfl rfl
    have a3 := S.c 0 3 rfl rfl
    have a4 := S.c 0 4 rfl rfl
    have a5 := S.c 0 5 rfl rfl
    go_enter Try.func18, Try.ntmps18
    go_wp2_with fail
    (with_reducible refine (V.out _ S.b).mono ?_)
    rintro e w1 ⟨rfl, hb⟩
    clear a0 a1 a2 a3 a4 a5
    replace S := S.call hb
    obtain ⟨f1, f2⟩ := hfin.out _ S.b
    go_wp2_with fail
    go_ret2
    exact hpost.out _ _ _ _ _ e1.out e2.out e3.out rfl f1 f2
  have hva := vB_iff.1 hvb
  have ho := hva.1
  have hadj := hva.2.2.2.1
  have hpre := hva.2.2.2.2.1
  obtain ⟨k, hk⟩ := Int.eq_ofNat_of_zero_le ho.1
  have e2 : instE a = 0 := by unfold instE; rw [hvb, if_pos rfl]
  rw [hvb] at V
  replace V := Lib.hid V
  obtain ⟨⟨M, hm, he⟩, hc⟩ := id h
  have hek := he k (by omega)
  have hgb := h.ne
  have C := fun W hb => dclone_any W _ a (hl.below hb) (by omega) (by omega)
  replace C := Lib.hid C
  replace hk : Hid (a.o = (k : Int)) := hk
  replace e2 := Lib.hid e2
  have hwf : (Lit.int .i64 a.o).wf = true := wf64 ho.1 (by omega)
  have hfin : Hid (∀ w', Below w.heap.size w w' → DbAt w' g b N ∧ w.grownBy w' (some b)) := fun w' hb => ⟨h.below hb, ⟨hb.os, hb.tape, hb.output, hb.size, fun k hk _ => hb.block k hk⟩⟩
  have a0 := S.c 0 0 rfl rfl
  have a1 := S.c 0 1 rfl rfl
  have a2 := S.c 0 2 rfl rfl
  have a3 := S.c 0 3 rfl rfl
  have a4 := S.c 0 4 rfl rfl
  have a5 := S.c 0 5 rfl rfl
  go_enter Try.func18, Try.ntmps18
  go_wp2_with fail
  (with_reducible refine (V.out _ S.b).mono ?_)
  rintro e w1 ⟨rfl, hb⟩
  clear a0 a1 a2 a3 a4 a5
  replace S := S.call hb
  clear V hb
  have hm1 := hm.below S.b
  have hc1 := cell_later S.b hc
  generalize hMv : (M a.o).getD hdZ = u at *
  generalize hMs : (M a.o).isSome = ok at *
  have b2 := below_new' w1 (.cells #[.int .i64 0, .int .i64 0, .int .i64 0, .bool false, .slice none 0 0, .slice none 0 0, .int .i64 0] 111)
  have L1 := (hm1.drew).run_ok hwf
  have L2 := (hm1.below b2).drew.run_ok hwf
  have T := S.drew
  have T2 := (S.alloc (.cells #[.int .i64 0, .int .i64 0, .int .i64 0, .bool false, .slice none 0 0, .slice none 0 0, .int .i64 0] 111)).drew
  have c1 : w1.drew.cell? ⟨g, 0, none⟩ = some (.map (some b)) := hc1
  have c2 : (w1.alloc (.cells #[.int .i64 0, .int .i64 0, .int .i64 0, .bool false, .slice none 0 0, .slice none 0 0, .int .i64 0] 111)).drew.cell? ⟨g, 0, none⟩ = some (.map (some b)) := (by have := cell_later b2 hc1; exact this)
  rw [hMv, hMs] at L1 L2
  have hu : ∃ u0 u1 u2 u3 A9 n9 c9 B9 m9 d9 u6, u = .agg #[.int .i64 u0, .int .i64 u1, .int .i64 u2, .bool u3, .slice A9 n9 c9, .slice B9 m9 d9, .int .i64 u6] := by
    rw [← hMv]
    cases hM : M a.o with
    | none => exact ⟨_, _, _, _, _, _, _, _, _, _, _, rfl⟩
    | some vv =>
      rw [← hk.out, hM] at hek
      cases hN : N k with
      | none => rw [hN] at hek; exact hek.elim
      | some hh =>
        rw [hN] at hek
        obtain ⟨A9, c9, B9, d9, rfl, _⟩ := hek
        exact ⟨_, _, _, _, _, _, _, _, _, _, _, rfl⟩
  obtain ⟨u0, u1, u2, u3, A9, n9, c9, B9, m9, d9, u6, rfl⟩ := hu
  replace hMv := Lib.hid hMv
  replace hMs := Lib.hid hMs
  have a0 := T.c 0 0 rfl rfl
  have a1 := T.c 0 1 rfl rfl
  have a2 := T.c 0 2 rfl rfl
  have a3 := T.c 0 3 rfl rfl
  have a4 := T.c 0 4 rfl rfl
  have a5 := T.c 0 5 rfl rfl
  have r0 := T2.c 0 0 rfl rfl
  have r1 := T2.c 0 1 rfl rfl
  have r2 := T2.c 0 2 rfl rfl
  have r3 := T2.c 0 3 rfl rfl
  have r4 := T2.c 0 4 rfl rfl
  have r5 := T2.c 0 5 rfl rfl
  go_upto_region 5 with fail
  go_cut [6, 7] (fun v6 v7 wx => v6 = .pointer (some ⟨w1.heap.size, 0, none⟩) ∧ v7 = .bool ok ∧ wx = (w1.alloc (.cells #[.int .i64 u0, .int .i64 u1, .int .i64 u2, .bool u3, .slice A9 n9 c9, .slice B9 m9 d9, .int .i64 u6] 111)).drew)
  case first =>
    go_region_law (fail)
    all_goals
      go_wp2_with fail
      go_meet
      exact ⟨rfl, rfl, rfl⟩
  case rest =>
    obtain ⟨rfl, rfl, rfl⟩ := hcut
    clear a0 a1 a2 a3 a4 a5
    clear r0 r1 r2 r3 r4 r5
    clear T T2 L1 L2 c1 c2 b2
    have b3 := below_new' w1 (.cells #[.int .i64 u0, .int .i64 u1, .int .i64 u2, .bool u3, .slice A9 n9 c9, .slice B9 m9 d9, .int .i64 u6] 111)
    have S2 := (S.new' #[.int .i64 u0, .int .i64 u1, .int .i64 u2, .bool u3, .slice A9 n9 c9, .slice B9 m9 d9, .int .i64 u6] 111 w1.heap.size _ rfl rfl).drew
    have hm2 := (hm1.below b3).drew
    have c2 : (w1.alloc (.cells #[.int .i64 u0, .int .i64 u1, .int .i64 u2, .bool u3, .slice A9 n9 c9, .slice B9 m9 d9, .int .i64 u6] 111)).drew.cell? ⟨g, 0, none⟩ = some (.map (some b)) := (by have := cell_later b3 hc1; exact this)
    clear S b3
    generalize (w1.alloc _).drew = w2 at *
    generalize w1.heap.size = g2 at *
    have L0 := hMs
    cases ok with
    | false =>
      have hNk : N k = none := by
        have hMn : M a.o = none := by have := hMs.out; simpa using this
        rw [← hk.out, hMn] at hek
        cases hN : N k with
        | none => rfl
        | some hh => rw [hN] at hek; exact hek.elim
      have e1 : instR N a = 1 := by unfold instR; rw [hvb, if_pos rfl, hk.out, Int.toNat_natCast, hNk]
      have S3 := S2
      have c0 := c2
      have e3 : instN N a = fun i => if i = a.o.toNat then some ⟨a, 60⟩ else N i := by unfold instN; rw [if_pos ⟨hvb, e1⟩]
      replace e1 := Lib.hid e1
      replace e3 := Lib.hid e3
      clear hMv hMs L0 hek
      have eqs := eqlSome b
      go_upto_region 14 with fail
      have T := S3.drew
      have c1 := c0
      replace c1 : World.cell? (World.drew _) ⟨g, 0, none⟩ = some (.map (some b)) := c1
      have a0 := T.c 1 0 rfl rfl
      have a1 := T.c 1 1 rfl rfl
      have a2 := T.c 1 2 rfl rfl
      have a3 := T.c 1 3 rfl rfl
      have a4 := T.c 1 4 rfl rfl
      have a5 := T.c 1 5 rfl rfl
      have tok1 : True := trivial
      go_region_law
        (first
          | (clear tok1; rw [if_pos (by simp [Region.wanted])]; go_simp; (with_reducible refine (C.out _ T.b).mono ?_); rintro e wa ⟨va, rfl, hown, hba⟩; obtain ⟨A5, c5, B5, d5, rfl, hL5⟩ := hown.ty; dsimp only; replace T := T.call hba; replace c1 := cell_later hba c1; have a0 := T.c 1 0 rfl rfl; obtain ⟨w9, run9, hm9, hg9⟩ := (hm.below T.b).run_put ho.1 ho.2 (hdV a A5 c5 B5 d5 60)))
      all_goals
        have hdb : DbAt w9 g b (fun i => if i = k then some ⟨a, 60⟩ else N i) := DbAt.put (hm.below T.b) (fun i hi => (he i hi).below T.b) c1 hgb k (by have := hk.out; omega) (some (hdV a A5 c5 B5 d5 60)) (some ⟨a, 60⟩) ⟨A5, c5, B5, d5, rfl, hL5.out _ (Below.refl _ _)⟩ (by rw [← hk.out]; exact hm9) hg9
        have hgr : w.grownBy w9 (some b) := (below_row T.b _).trans hg9
        have hN9 : instN N a = fun i => if i = k then some ⟨a, 60⟩ else N i := by rw [e3.out, hk.out]; rfl
        replace hN9 := Lib.hid hN9
        clear e3 hm9 hg9 T c1 run9
        go_wp2_with fail
        go_ret2
        exact hpost.out _ _ _ _ _ e1.out e2.out hN9.out rfl hdb hgr
    | true =>
      obtain ⟨hh, hNk, hu, hlx⟩ : ∃ hh, N k = some hh ∧ (.agg #[.int .i64 u0, .int .i64 u1, .int .i64 u2, .bool u3, .slice A9 n9 c9, .slice B9 m9 d9, .int .i64 u6] : Value) = hdV hh.x A9 c9 B9 d9 hh.l ∧ LaAt w (laV hh.x.o hh.x.s hh.x.a hh.x.ov A9 hh.x.adj.length c9 B9 hh.x.pre.length d9) hh.x := by
        rw [hk.out] at hMs hMv
        cases hM : M (k : Int) with
        | none => have := hMs.out; rw [hM] at this; cases this
        | some vv =>
          rw [hM] at hek
          cases hN : N k with
          | none => rw [hN] at hek; exact hek.elim
          | some hh =>
            rw [hN] at hek
            obtain ⟨A8, c8, B8, d8, rfl, hla⟩ := hek
            have hv := hMv.out
            rw [hM] at hv
            simp only [Option.getD_some, Value.agg.injEq, Array.mk.injEq, List.cons.injEq, Value.slice.injEq, Value.int.injEq, Value.bool.injEq, true_and, and_true] at hv
            obtain ⟨rfl, rfl, rfl, rfl, ⟨rfl, rfl, rfl⟩, ⟨rfl, rfl, rfl⟩, rfl⟩ := hv
            exact ⟨hh, rfl, rfl, hla.1⟩
      simp only [Value.agg.injEq, Array.mk.injEq, List.cons.injEq, Value.slice.injEq, Value.int.injEq, Value.bool.injEq, true_and, and_true] at hu
      obtain ⟨rfl, rfl, rfl, rfl, rfl, rfl, rfl⟩ := hu
      have NW := lnewer_any w2 _ _ a hh.x (hl.below S2.b) (hlx.below S2.b)
      obtain ⟨z, hz⟩ : ∃ z, newI a hh.x = z := ⟨_, rfl⟩
      rw [hz] at NW
      replace NW := Lib.hid NW
      have a0 := S2.c 1 0 rfl rfl
      have a1 := S2.c 1 1 rfl rfl
      have a2 := S2.c 1 2 rfl rfl
      have a3 := S2.c 1 3 rfl rfl
      have a4 := S2.c 1 4 rfl rfl
      have a5 := S2.c 1 5 rfl rfl
      have r0 := S2.c 0 0 rfl rfl
      have r1 := S2.c 0 1 rfl rfl
      have r2 := S2.c 0 2 rfl rfl
      have r3 := S2.c 0 3 rfl rfl
      have r4 := S2.c 0 4 rfl rfl
      have r5 := S2.c 0 5 rfl rfl
      go_wp2_with fail
      (with_reducible refine (NW.out).mono ?_)
      rintro e w3 ⟨rfl, hb⟩
      clear a0 a1 a2 a3 a4 a5
      clear r0 r1 r2 r3 r4 r5
      have S3 := S2.call hb
      have c0 := cell_later hb c2
      clear NW hb S2
      have hR : instR N a = if z = 0 then 2 else if z = -1 then 3 else 1 := by unfold instR; rw [hvb, if_pos rfl, hk.out, Int.toNat_natCast, hNk]; simp only [hz]
      by_cases hz0 : z = 0
      · subst hz0
        have e1 : instR N a = 2 := by rw [hR, if_pos rfl]
        have e3 : instN N a = N := by unfold instN; rw [e1, if_neg (by simp)]
        obtain ⟨f1, f2⟩ := hfin.out _ S3.b
        replace e1 := Lib.hid e1
        replace e3 := Lib.hid e3
        clear hR hz hNk
        go_wp2_with fail
        go_ret2
        exact hpost.out _ _ _ _ _ e1.out e2.out e3.out rfl f1 f2
      by_cases hz1 : z = -1
      · subst hz1
        have e1 : instR N a = 3 := by rw [hR, if_neg (by omega), if_pos rfl]
        have e3 : instN N a = N := by unfold instN; rw [e1, if_neg (by simp)]
        obtain ⟨f1, f2⟩ := hfin.out _ S3.b
        replace e1 := Lib.hid e1
        replace e3 := Lib.hid e3
        clear hR hz hNk hz0
        go_wp2_with fail
        go_ret2
        exact hpost.out _ _ _ _ _ e1.out e2.out e3.out rfl f1 f2
      have e1 : instR N a = 1 := by rw [hR, if_neg hz0, if_neg hz1]
      have z0 : (z == 0) = false := by simpa using hz0
      have z1 : (z == -1) = false := by simpa using hz1
      clear hR hz hNk hz0 hz1
      have e3 : instN N a = fun i => if i = a.o.toNat then some ⟨a, 60⟩ else N i := by unfold instN; rw [if_pos ⟨hvb, e1⟩]
      replace e1 := Lib.hid e1
      replace e3 := Lib.hid e3
      clear hMv hMs L0 hek
      have eqs := eqlSome b
      go_upto_region 14 with fail
      have T := S3.drew
      have c1 := c0
      replace c1 : World.cell? (World.drew _) ⟨g, 0, none⟩ = some (.map (some b)) := c1
      have a0 := T.c 1 0 rfl rfl
      have a1 := T.c 1 1 rfl rfl
      have a2 := T.c 1 2 rfl rfl
      have a3 := T.c 1 3 rfl rfl
      have a4 := T.c 1 4 rfl rfl
      have a5 := T.c 1 5 rfl rfl
      have tok1 : True := trivial
      go_region_law
        (first
          | (clear tok1; rw [if_pos (by simp [Region.wanted])]; go_simp; (with_reducible refine (C.out _ T.b).mono ?_); rintro e wa ⟨va, rfl, hown, hba⟩; obtain ⟨A5, c5, B5, d5, rfl, hL5⟩ := hown.ty; dsimp only; replace T := T.call hba; replace c1 := cell_later hba c1; have a0 := T.c 1 0 rfl rfl; obtain ⟨w9, run9, hm9, hg9⟩ := (hm.below T.b).run_put ho.1 ho.2 (hdV a A5 c5 B5 d5 60)))
      all_goals
        have hdb : DbAt w9 g b (fun i => if i = k then some ⟨a, 60⟩ else N i) := DbAt.put (hm.below T.b) (fun i hi => (he i hi).below T.b) c1 hgb k (by have := hk.out; omega) (some (hdV a A5 c5 B5 d5 60)) (some ⟨a, 60⟩) ⟨A5, c5, B5, d5, rfl, hL5.out _ (Below.refl _ _)⟩ (by rw [← hk.out]; exact hm9) hg9
        have hgr : w.grownBy w9 (some b) := (below_row T.b _).trans hg9
        have hN9 : instN N a = fun i => if i = k then some ⟨a, 60⟩ else N i := by rw [e3.out, hk.out]; rfl
        replace hN9 := Lib.hid hN9
        clear e3 hm9 hg9 T c1 run9
        go_wp2_with fail
        go_ret2
        exact hpost.out _ _ _ _ _ e1.out e2.out hN9.out rfl hdb hgr

end Go.Proofs.Ytnfldccaeibcpaa

namespace Go.Proofs.Ytnfldccaeibcpaa
set_option linter.unusedVariables false
open Go.RowKit Go.Maps Go.Sort

/-- What is held for any number. -/
def getO (N : Db) (i : Int) : Option Hd := if 0 ≤ i ∧ i < 64 then N i.toNat else none
def getX (o : Option Hd) : La := match o with | some h => h.x | none => laZero
/-- Sizes that the copies want. -/
def Few33 (N : Db) : Prop := ∀ i h, N i = some h → h.x.adj.length ≤ 1000000 ∧ h.x.pre.length ≤ 1000000
/-- An element that is read, the zero one where there is none. -/
theorem elem_form {w : World} {g b : Nat} {N : Db} (h : DbAt w g b N) (hf : Few33 N) (i : Int) : ∃ M, MapIs w b M ∧ (M i).isSome = (getO N i).isSome ∧ (∃ A c B d l, (M i).getD hdZ = hdV (getX (getO N i)) A c B d l ∧ LaAt w (laV (getX (getO N i)).o (getX (getO N i)).s (getX (getO N i)).a (getX (getO N i)).ov A (getX (getO N i)).adj.length c B (getX (getO N i)).pre.length d) (getX (getO N i))) ∧
    (getX (getO N i)).adj.length ≤ 1000000 ∧ (getX (getO N i)).pre.length ≤ 1000000 := by
  obtain ⟨⟨M, hm, he⟩, hc⟩ := h
  refine ⟨M, hm, ?_⟩
  by_cases hi : 0 ≤ i ∧ i < 64
  · have e1 : getO N i = N i.toNat := by unfold getO; rw [if_pos hi]
    have hei := he i.toNat (by omega)
    rw [Int.toNat_of_nonneg hi.1] at hei
    rw [e1]
    cases hM : M i with
    | none =>
      rw [hM] at hei
      cases hN : N i.toNat with
      | none => exact ⟨rfl, ⟨none, 0, none, 0, 0, rfl, (laZero_own w w.heap.size).at⟩, by simp [getX, laZero], by simp [getX, laZero]⟩
      | some hh => rw [hN] at hei; exact hei.elim
    | some v =>
      rw [hM] at hei
      cases hN : N i.toNat with
      | none => rw [hN] at hei; exact hei.elim
      | some hh =>
        rw [hN] at hei
        obtain ⟨A, c, B, d, rfl, hl⟩ := hei
        exact ⟨rfl, ⟨A, c, B, d, hh.l, rfl, hl.1⟩, (hf _ _ hN).1, (hf _ _ hN).2⟩
  · have e1 : getO N i = none := by unfold getO; rw [if_neg hi]
    have hM : M i = none := by
      cases h2 : M i with
      | none => rfl
      | some v => exact absurd (hm.small (i := i) (by rw [h2]; rfl)) (by omega)
    rw [e1, hM]
    exact ⟨rfl, ⟨none, 0, none, 0, 0, rfl, (laZero_own w w.heap.size).at⟩, by simp [getX, laZero], by simp [getX, laZero]⟩

def GetPost (w : World) (o : Option Hd) (e : Ending) (w' : World) : Prop :=
  ∃ v, e = .returned (.tuple #[v, .bool o.isSome]) ∧ LaOwn w' w.heap.size v (getX o) ∧ Below w.heap.size w w'

set_option maxRecDepth 100000 in
set_option maxHeartbeats 3200000 in
theorem dget_any (w : World) (g b : Nat) (N : Db) (i : Int) (hi : (Lit.int .i64 i).wf = true) (h : DbAt w g b N) (hf : Few33 N) : Calls Try.prog 21 #[.pointer (some ⟨g, 0, none⟩), .int .i64 i] w (GetPost w (getO N i)) := by
  obtain ⟨M, hm, hs, ⟨A, c, B, d, l, hv, hl⟩, hb1, hb2⟩ := elem_form h hf i
  have hc := h.cell
  generalize hG : getO N i = G at *
  have S := (St.start w).new' #[.int .i64 0, .int .i64 0, .int .i64 0, .bool false, .slice none 0 0, .slice none 0 0] 45 w.heap.size _ rfl rfl
  have hc1 := cell_later S.b hc
  have L := (hm.below S.b).run_ok hi
  rw [hv, hs] at L
  unfold GetPost
  generalize G.isSome = ok at *
  generalize getX G = x at *
  have C := fun W hb => dclone_any W _ x (hl.below hb) hb1 hb2
  unfold hdV at L
  replace C := Lib.hid C
  clear hl hv hm hs h hf hG hb1 hb2 hi
  have r0 := S.c 0 0 rfl rfl
  have r1 := S.c 0 1 rfl rfl
  have r2 := S.c 0 2 rfl rfl
  have r3 := S.c 0 3 rfl rfl
  have r4 := S.c 0 4 rfl rfl
  have r5 := S.c 0 5 rfl rfl
  go_enter Try.func21, Try.ntmps21
  go_upto_region 4 with fail
  have S2 := S.new' #[.int .i64 x.o, .int .i64 x.s, .int .i64 x.a, .bool x.ov, .slice A x.adj.length c, .slice B x.pre.length d, .int .i64 l] 111 (w.heap.size + 1) _ (by simp) rfl
  clear r0 r1 r2 r3 r4 r5
  clear L hc1 S hc
  generalize World.alloc (World.alloc _ _) _ = w2 at *
  have a0 := S2.c 0 0 rfl rfl
  have a1 := S2.c 0 1 rfl rfl
  have a2 := S2.c 0 2 rfl rfl
  have a3 := S2.c 0 3 rfl rfl
  have a4 := S2.c 0 4 rfl rfl
  have a5 := S2.c 0 5 rfl rfl
  have a6 := S2.c 0 6 rfl rfl
  go_wp2_with fail
  (with_reducible refine (C.out _ S2.b).mono ?_)
  rintro e w3 ⟨v3, rfl, hown, hb⟩
  have T := (S2.call hb).keepBoxes [(w.heap.size, [.int .i64 0, .int .i64 0, .int .i64 0, .bool false, .slice none 0 0, .slice none 0 0])] (by simp)
  have hsz := S2.b.size
  have hlt := S2.lt 1 rfl (by simp)
  obtain ⟨A1, c1, B1, d1, rfl, o1, o2, hu⟩ := hown
  clear a0 a1 a2 a3 a4 a5 a6
  clear S2 hb C
  have r0 := T.c 0 0 rfl rfl
  have r1 := T.c 0 1 rfl rfl
  have r2 := T.c 0 2 rfl rfl
  have r3 := T.c 0 3 rfl rfl
  have r4 := T.c 0 4 rfl rfl
  have r5 := T.c 0 5 rfl rfl
  have f0 := T.f 0 0 rfl rfl
  have f1 := T.f 0 1 rfl rfl
  have f2 := T.f 0 2 rfl rfl
  have f3 := T.f 0 3 rfl rfl
  have f4 := T.f 0 4 rfl rfl
  have f5 := T.f 0 5 rfl rfl
  have S9 := T.set6 x.o x.s x.a x.ov (.slice A1 x.adj.length c1) (.slice B1 x.pre.length d1) (Nat.le_refl _) (by simp)
  have q1 := own_set6 o1 hlt (.int .i64 x.o) (.int .i64 x.s) (.int .i64 x.a) (.bool x.ov) (.slice A1 x.adj.length c1) (.slice B1 x.pre.length d1)
  have q2 := own_set6 o2 hlt (.int .i64 x.o) (.int .i64 x.s) (.int .i64 x.a) (.bool x.ov) (.slice A1 x.adj.length c1) (.slice B1 x.pre.length d1)
  have hb9 := S9.b
  go_wp2_with fail
  exact bodyPost_ret (v := .tuple #[laV x.o x.s x.a x.ov A1 x.adj.length c1 B1 x.pre.length d1, .bool ok]) (by simp [results, Try.results21, go_sem, r0, r1, r2, r3, r4, r5]) rfl ⟨_, rfl, ⟨A1, c1, B1, d1, rfl, own_mono q1 (by omega), own_mono q2 (by omega), hu⟩, hb9⟩

end Go.Proofs.Ytnfldccaeibcpaa

namespace Go.Proofs.Ytnfldccaeibcpaa
set_option linter.unusedVariables false
open Go.RowKit Go.Maps Go.Sort

/-- n ticks of a held advertisement; whether it expired. -/
def tickH (n : Int) (h : Hd) : Option Hd × Bool :=
  if h.x.a < 3600 then
    if n < 3600 - h.x.a then (some ⟨{ h.x with a := h.x.a + n }, h.l⟩, false)
    else (if 60 ≤ n - (3600 - h.x.a) then none else some ⟨purgeX h.x, 60 - (n - (3600 - h.x.a))⟩, true)
  else (if h.l ≤ n then none else some ⟨h.x, h.l - n⟩, false)
def tickN (n : Int) (N : Db) : Db := fun i => match N i with | some h => (tickH n h).1 | none => none
def expH (n : Int) (o : Option Hd) : Bool := match o with | some h => (tickH n h).2 | none => false
/-- The origins in order. -/
def orgs (N : Db) : List Int := ((List.range 64).map fun (i : Nat) => (i : Int)).filter fun i => (N i.toNat).isSome
def tickL (n : Int) (N : Db) : List Int := (orgs N).filter fun i => expH n (N i.toNat)
/-- What holds of what is held. -/
def DbOk (N : Db) : Prop := ∀ i h, N i = some h → LaValid h.x ∧ h.x.o = (i : Int) ∧ 1 ≤ h.l ∧ h.l ≤ 60
theorem DbOk.few {N : Db} (h : DbOk N) : Few33 N := fun i x e => by
  have := (h i x e).1
  exact ⟨by have := this.2.2.2.1; omega, by have := this.2.2.2.2.1; omega⟩
theorem orgs_mem {N : Db} (i : Int) : i ∈ orgs N ↔ (0 ≤ i ∧ i < 64) ∧ (N i.toNat).isSome = true := by
  unfold orgs
  rw [List.mem_filter, List.mem_map]
  constructor
  · rintro ⟨⟨k, hk, rfl⟩, h⟩
    exact ⟨⟨by omega, by have := List.mem_range.1 hk; omega⟩, h⟩
  · rintro ⟨⟨h0, h1⟩, h⟩
    exact ⟨⟨i.toNat, List.mem_range.2 (by omega), Int.toNat_of_nonneg h0⟩, h⟩
theorem orgs_sorted (N : Db) : (orgs N).Pairwise (· < ·) := by
  unfold orgs
  refine List.Pairwise.filter _ ?_
  rw [List.pairwise_map]
  exact List.pairwise_lt_range.imp fun h => by omega
theorem orgs_len (N : Db) : (orgs N).length ≤ 64 := by
  unfold orgs
  refine Nat.le_trans (List.length_filter_le _ _) ?_
  simp
theorem keysL_orgs {w : World} {b : Nat} {M : Int → Option Value} {N : Db} (hm : MapIs w b M) (he : ∀ i : Nat, i < 64 → ElAt w (M (i : Int)) (N i)) : keysL M = orgs N := by
  unfold keysL orgs
  refine List.filter_congr fun i hi => ?_
  obtain ⟨k, hk, rfl⟩ := List.mem_map.1 hi
  have := he k (List.mem_range.1 hk)
  rw [Int.toNat_natCast]
  cases hM : M (k : Int) with
  | none =>
    rw [hM] at this
    cases hN : N k with
    | none => rfl
    | some x => rw [hN] at this; exact this.elim
  | some v =>
    rw [hM] at this
    cases hN : N k with
    | none => rw [hN] at this; exact this.elim
    | some x => rfl
/-- Behind k of the origins. -/
def midN (n : Int) (N : Db) (k : Nat) : Db := fun j => if (j : Int) ∈ (orgs N).take k then tickN n N j else N j
theorem midN_zero (n : Int) (N : Db) : midN n N 0 = N := by funext j; simp [midN]
theorem midN_end (n : Int) (N : Db) (hN : ∀ i, 64 ≤ i → N i = none) : midN n N (orgs N).length = tickN n N := by
  funext j
  unfold midN
  rw [List.take_length]
  by_cases h : (j : Int) ∈ orgs N
  · rw [if_pos h]
  · rw [if_neg h]
    have : N j = none := by
      cases hj : N j with
      | none => rfl
      | some x =>
        by_cases h6 : j < 64
        · exact absurd ((orgs_mem (N := N) (j : Int)).2 ⟨⟨by omega, by omega⟩, by rw [Int.toNat_natCast, hj]; rfl⟩) h
        · have := hN j (by omega); rw [hj] at this; cases this
    unfold tickN
    rw [this]
theorem midN_succ (n : Int) (N : Db) (k : Nat) (hk : k < (orgs N).length) (q : Nat) (hq : (orgs N)[k] = (q : Int)) : midN n N (k + 1) = fun j => if j = q then tickN n N q else midN n N k j := by
  funext j
  unfold midN
  rw [List.take_succ_eq_append_getElem hk, hq]
  by_cases h : j = q
  · subst h
    rw [if_pos (by simp), if_pos rfl]
  · rw [if_neg h]
    by_cases h2 : (j : Int) ∈ (orgs N).take k
    · rw [if_pos (by simp [h2]), if_pos h2]
    · rw [if_neg (by simp [h2]; omega), if_neg h2]
theorem midN_at (n : Int) (N : Db) (k : Nat) (hk : k < (orgs N).length) (q : Nat) (hq : (orgs N)[k] = (q : Int)) : midN n N k q = N q := by
  unfold midN
  rw [if_neg]
  intro hm
  have hp := orgs_sorted N
  obtain ⟨i, hi, e⟩ := List.getElem_of_mem hm
  rw [List.length_take] at hi
  rw [List.getElem_take] at e
  have := List.pairwise_iff_getElem.1 hp i k (by omega) hk (by omega)
  rw [e, hq] at this
  omega
theorem tickL_take (n : Int) (N : Db) (k : Nat) (hk : k < (orgs N).length) (q : Nat) (hq : (orgs N)[k] = (q : Int)) : ((orgs N).take (k + 1)).filter (fun i => expH n (N i.toNat)) = ((orgs N).take k).filter (fun i => expH n (N i.toNat)) ++ (if expH n (N q) = true then [(q : Int)] else []) := by
  rw [List.take_succ_eq_append_getElem hk, hq, List.filter_append]
  congr 1
  rw [List.filter_cons, Int.toNat_natCast]
  split <;> simp
/-! ### Memory -/
/-- What has turned since w0: the map in block b alone. -/
theorem grown_belowB {w0 w w' : World} {b B : Nat} (h : w0.grownBy w (some b)) (hb : Below B w w') (hB : w0.heap.size ≤ B) : w0.grownBy w' (some b) :=
  ⟨hb.os.trans h.os, hb.tape.trans h.tape, hb.output.trans h.output, Nat.le_trans h.size hb.size, fun k hk hne => (hb.block k (Nat.lt_of_lt_of_le hk hB)).trans (h.block k hk hne)⟩
theorem MapIs.belowB {w w' : World} {b B : Nat} {M : Int → Option Value} (h : MapIs w b M) (hb : Below B w w') (hB : b < B) : MapIs w' b M := by
  obtain ⟨D, ⟨es, clock, h1, h2⟩, hd⟩ := h
  exact ⟨D, ⟨es, clock, (hb.block b hB).trans h1, h2⟩, hd⟩
theorem own_belowB {w w' : World} {base : Nat} {e : TypeId} {size : Nat} {v : Value} {n : Nat} {xs : List Value} {B : Nat} (h : w.ownsRow base e size v n xs) (hb : Below B w w') (hB : ∀ k, v.ownBlock = some k → k < B) : w'.ownsRow base e size v n xs := by
  refine ⟨h.1, ?_⟩
  rcases h.2 with h2 | ⟨g, cap, cur, rfl, hg, hh, r⟩
  · exact .inl h2
  · exact .inr ⟨g, cap, cur, rfl, hg, (hb.block g (hB g rfl)).trans hh, r⟩
theorem own_rowB {w w' : World} {base : Nat} {e : TypeId} {size : Nat} {v : Value} {n : Nat} {xs : List Value} {b : Nat} (h : w.ownsRow base e size v n xs) (hg : w.grownBy w' (some b)) (hB : b < base) : w'.ownsRow base e size v n xs := by
  refine ⟨h.1, ?_⟩
  rcases h.2 with h2 | ⟨g, cap, cur, rfl, hgb, hh, r⟩
  · exact .inl h2
  · exact .inr ⟨g, cap, cur, rfl, hgb, (hg.block g (h.lt g rfl).2 (fun e => by injection e; omega)).trans hh, r⟩
/-- 'delete(m, i)', as an equation. -/
theorem MapIs.run_del {w : World} {b : Nat} {M : Int → Option Value} (h : MapIs w b M) {i : Int} (hi : (Lit.int .i64 i).wf = true) (ty : TypeId) :
    ∃ w', (Builtin.delete_ #[101, 3] ty #[.map (some b), .int .i64 i]).run Try.prog w = .ok (.tuple #[]) w' ∧ MapIs w' b (fun j => if j = i then none else M j) ∧ w.grownBy w' (some b) := by
  obtain ⟨D, hown, hd⟩ := h
  obtain ⟨w', hrun, r1, r2⟩ := hown.drop keyI Try.underlying101 (keyOfI hi) ty
  exact ⟨w', hrun, .of r1 (hd.del i), r2.grown⟩

end Go.Proofs.Ytnfldccaeibcpaa

namespace Go.Proofs.Ytnfldccaeibcpaa
set_option linter.unusedVariables false
open Go.RowKit Go.Maps Go.Sort

theorem dorigins_any (w : World) (g b : Nat) (N : Db) (h : DbAt w g b N) : Calls Try.prog 38 #[.pointer (some ⟨g, 0, none⟩)] w fun e w' => ∃ A c, e = .returned (.slice A (orgs N).length c) ∧
    w'.ownsRow w.heap.size 3 1 (.slice A (orgs N).length c) (orgs N).length ((orgs N).map encZ) ∧ Below w.heap.size w w' := by
  obtain ⟨⟨M, hm, he⟩, hc⟩ := h
  have hko := keysL_orgs hm he
  obtain ⟨D, hown, hd⟩ := hm
  have hs := size_keys hown hd
  refine (origins_any g b 64 D hdR w hc hown (by unfold maxLen; omega) (by omega)).mono ?_
  rintro e w' ⟨v, ss, he, hp, hrow, hnil, hb⟩
  rw [sort_keys hown hd hp, hko] at hrow
  have hl : ss.length = (orgs N).length := by
    rw [← hko, ← sort_keys hown hd hp, List.length_mergeSort]
  rw [hl] at hrow
  obtain ⟨A, c, rfl, _⟩ := own_rd hrow
  exact ⟨A, c, he, hrow, hb⟩

theorem intT : ElemT Try.prog 61 3 (.int .i64 0) 1 8 := ⟨Try.underlying61, by kernel_rfl, rfl, by omega⟩
def DTickPost (w : World) (g b : Nat) (N : Db) (n : Int) (e : Ending) (w' : World) : Prop :=
  ∃ v, e = .returned v ∧ w'.ownsRow w.heap.size 3 1 v (tickL n N).length ((tickL n N).map encZ) ∧ DbAt w' g b (tickN n N) ∧ w.grownBy w' (some b)
/-- The state between two rounds. -/
structure TkAt (w wr : World) (g b : Nat) (N : Db) (n : Int) (B : Nat) (v14 v5 : Value) (k : Nat) (es : List Int) : Prop where
  ex : ∃ M, MapIs wr b M ∧ ∀ i : Nat, i < 64 → ElAt w (M (i : Int)) (midN n N k i)
  cell : wr.cell? ⟨g, 0, none⟩ = some (.map (some b))
  gr : w.grownBy wr (some b)
  o14 : wr.ownsRow w.heap.size 3 1 v14 (orgs N).length ((orgs N).map encZ)
  o5 : wr.ownsRow B 3 1 v5 es.length (es.map encZ)
  he : es = ((orgs N).take k).filter (fun i => expH n (N i.toNat))
  sz : B ≤ wr.heap.size

theorem own_far {w : World} {base : Nat} {e : TypeId} {size : Nat} {v : Value} {n : Nat} {xs : List Value} (h : w.ownsRow base e size v n xs) {p : Addr} (hp : ∀ k, v.ownBlock = some k → k ≠ p.block) (u : Value) : (w.setCell p u).ownsRow base e size v n xs := by
  refine ⟨h.1, ?_⟩
  rcases h.2 with h2 | ⟨g, cap, cur, rfl, hg, hh, r⟩
  · exact .inl h2
  · exact .inr ⟨g, cap, cur, rfl, hg, (heap_setCell_other w p g u (fun e => hp g rfl e)).trans hh, r⟩
/-- The state within a round: the box of the held advertisement lies in block g2. -/
structure TkW (w W : World) (g b : Nat) (M : Int → Option Value) (N : Db) (B : Nat) (v14 v5 : Value) (es : List Int) (g2 : Nat) (cs : List Value) : Prop where
  hm : MapIs W b M
  c : W.cell? ⟨g, 0, none⟩ = some (.map (some b))
  gr : w.grownBy W (some b)
  o14 : W.ownsRow w.heap.size 3 1 v14 (orgs N).length ((orgs N).map encZ)
  o5 : W.ownsRow B 3 1 v5 es.length (es.map encZ)
  l14 : ∀ bb, v14.ownBlock = some bb → bb < B
  l5 : ∀ bb, v5.ownBlock = some bb → bb ≠ g2
  bx : Box W g2 cs
  pos : 0 < cs.length
  hB : B ≤ g2
  hw : w.heap.size ≤ B
  hg : g < w.heap.size
  hb : b < w.heap.size
section
variable {w W W' : World} {g b : Nat} {M : Int → Option Value} {N : Db} {B : Nat} {v14 v5 : Value} {es : List Int} {g2 : Nat} {cs : List Value}
theorem TkW.sz (h : TkW w W g b M N B v14 v5 es g2 cs) : B ≤ W.heap.size := Nat.le_trans h.hB (Nat.le_of_lt (h.bx.lt h.pos))
theorem TkW.set (h : TkW w W g b M N B v14 v5 es g2 cs) (j : Nat) (u : Value) (hj : j < cs.length) (cs' : List Value) (hcs : cs.set j u = cs') : TkW w (W.setCell ⟨g2, j, none⟩ u) g b M N B v14 v5 es g2 cs' := by
  subst hcs
  have h1 := h.hB; have h2 := h.hw; have h3 := h.hg; have h4 := h.hb
  refine ⟨h.hm.kept (grownBy_set W g2 j u) (fun e => by injection e; omega), (cell_far u (by intro e; injection e; omega)).trans h.c, ?_, own_far h.o14 (fun k hk => by have := h.l14 k hk; simp only; omega) u, own_far h.o5 (fun k hk => h.l5 k hk) u, h.l14, h.l5, h.bx.set j u hj, by rw [List.length_set]; exact h.pos, h.hB, h.hw, h.hg, h.hb⟩
  have hg := grownBy_set W g2 j u
  refine ⟨hg.os.trans h.gr.os, hg.tape.trans h.gr.tape, hg.output.trans h.gr.output, Nat.le_trans h.gr.size hg.size, fun k hk hne => ?_⟩
  exact (hg.block k (Nat.lt_of_lt_of_le hk h.gr.size) (fun e => by injection e; omega)).trans (h.gr.block k hk hne)
theorem TkW.below (h : TkW w W g b M N B v14 v5 es g2 cs) (hb : Below W.heap.size W W') : TkW w W' g b M N B v14 v5 es g2 cs :=
  ⟨h.hm.below hb, cell_later hb h.c, h.gr.trans (below_row hb _), own_below h.o14 hb, own_below h.o5 hb, h.l14, h.l5, h.bx.later hb, h.pos, h.hB, h.hw, h.hg, h.hb⟩
theorem TkW.drew (h : TkW w W g b M N B v14 v5 es g2 cs) : TkW w W.drew g b M N B v14 v5 es g2 cs := h.below ⟨rfl, rfl, rfl, Nat.le_refl _, fun _ _ => rfl⟩
theorem TkW.app (h : TkW w W g b M N B v14 v5 es g2 cs) {v5' : Value} {es' : List Int} (ho : W'.ownsRow B 3 1 v5' es'.length (es'.map encZ)) (hbel : Below B W W') (hg : W.grownBy W' v5.ownBlock) (hv : v5'.ownBlock = v5.ownBlock ∨ v5'.ownBlock = some W.heap.size) : TkW w W' g b M N B v14 v5' es' g2 cs := by
  have h1 := h.hB; have h2 := h.hw; have h3 := h.hg; have h4 := h.hb
  have hl := h.bx.lt h.pos
  refine ⟨h.hm.belowB hbel (by omega), (hbel.cell (p := ⟨g, 0, none⟩) (by simp only; omega)).trans h.c, grown_belowB h.gr hbel h.hw, own_belowB h.o14 hbel h.l14, ho, h.l14, fun bb e => ?_, h.bx.kept hg (fun e => h.l5 g2 e.symm rfl) h.pos, h.pos, h.hB, h.hw, h.hg, h.hb⟩
  rcases hv with e2 | e2
  · exact h.l5 bb (e2 ▸ e)
  · rw [e2] at e; injection e; omega
/-- Behind the map's turn. -/
theorem TkW.fin (h : TkW w W g b M N B v14 v5 es g2 cs) {w9 : World} (hg9 : W.grownBy w9 (some b)) : w9.cell? ⟨g, 0, none⟩ = some (.map (some b)) ∧ w.grownBy w9 (some b) ∧ w9.ownsRow w.heap.size 3 1 v14 (orgs N).length ((orgs N).map encZ) ∧ w9.ownsRow B 3 1 v5 es.length (es.map encZ) ∧ B ≤ w9.heap.size := by
  have h1 := h.hB; have h2 := h.hw; have h3 := h.hg; have h4 := h.hb
  have hne : g ≠ b := fun e => by have := h.c; rw [e, h.hm.no_cell] at this; cases this
  refine ⟨?_, h.gr.trans hg9, own_rowB h.o14 hg9 h.hb, own_rowB h.o5 hg9 (by omega), Nat.le_trans h.sz hg9.size⟩
  rw [World.cell?_of_block (a := ⟨g, 0, none⟩) (hg9.block g (World.block_lt_of_cell? _ _ h.c) (fun e => hne (by injection e)))]
  exact h.c
end

end Go.Proofs.Ytnfldccaeibcpaa

namespace Go.Proofs.Ytnfldccaeibcpaa
set_option linter.unusedVariables false
open Go.RowKit Go.Maps Go.Sort

set_option maxRecDepth 100000 in
set_option maxHeartbeats 800000 in
theorem dinstall_nil (w : World) (v : Value) (x : La) (h : LaAt w v x) : Calls Try.prog 18 #[.pointer none, v] w fun e w' => e = .returned (.tuple #[.int .i64 0, .int .i64 7]) ∧ Below w.heap.size w w' := by
  obtain ⟨A, c, B, d, rfl⟩ := h.form
  have hb := below_new' w (.cells #[.int .i64 x.o, .int .i64 x.s, .int .i64 x.a, .bool x.ov, .slice A x.adj.length c, .slice B x.pre.length d] 45)
  go_enter Try.func18, Try.ntmps18
  go_wp2_with fail
  go_ret2
  exact ⟨rfl, hb⟩

set_option maxRecDepth 100000 in
set_option maxHeartbeats 800000 in
theorem dget_nil (w : World) (i : Int) : Calls Try.prog 21 #[.pointer none, .int .i64 i] w fun e w' => e = .returned (.tuple #[laV 0 0 0 false none 0 0 none 0 0, .bool false]) ∧ Below w.heap.size w w' := by
  have S := (St.start w).new' #[.int .i64 0, .int .i64 0, .int .i64 0, .bool false, .slice none 0 0, .slice none 0 0] 45 w.heap.size _ rfl rfl
  have r0 := S.c 0 0 rfl rfl
  have r1 := S.c 0 1 rfl rfl
  have r2 := S.c 0 2 rfl rfl
  have r3 := S.c 0 3 rfl rfl
  have r4 := S.c 0 4 rfl rfl
  have r5 := S.c 0 5 rfl rfl
  have f0 := S.f 0 0 rfl rfl
  have f1 := S.f 0 1 rfl rfl
  have f2 := S.f 0 2 rfl rfl
  have f3 := S.f 0 3 rfl rfl
  have f4 := S.f 0 4 rfl rfl
  have f5 := S.f 0 5 rfl rfl
  have hb := S.b
  go_enter Try.func21, Try.ntmps21
  go_wp2_with fail
  exact bodyPost_ret (v := .tuple #[laV 0 0 0 false none 0 0 none 0 0, .bool false]) (by simp [results, Try.results21, go_sem, r0, r1, r2, r3, r4, r5]) rfl ⟨rfl, hb⟩

set_option maxRecDepth 100000 in
set_option maxHeartbeats 800000 in
theorem dorigins_nil (w : World) : Calls Try.prog 38 #[.pointer none] w fun e w' => e = .returned (.slice none 0 0) ∧ w = w' := by
  go_enter Try.func38, Try.ntmps38
  go_wp2_with fail
  go_ret
  exact ⟨rfl, rfl⟩

set_option maxRecDepth 100000 in
set_option maxHeartbeats 1600000 in
theorem dall_nil (w : World) : Calls Try.prog 24 #[.pointer none] w fun e w' => e = .returned (.slice none 0 0) ∧ Below w.heap.size w w' := by
  have hb := Below.refl w.heap.size w
  go_enter Try.func24, Try.ntmps24
  go_wp2_with fail
  (with_reducible refine (dorigins_nil _).mono ?_)
  rintro e w1 ⟨rfl, rfl⟩
  go_wp2_with fail
  go_loopw [3, 9] (fun v5 v16 wr => v5 = .slice none 0 0 ∧ v16 = .int .i64 0 ∧ wr = w) (fun _ _ _ => 0)
  case atStart => exact ⟨rfl, rfl, rfl⟩
  case round =>
    obtain ⟨rfl, rfl, rfl⟩ := hrel
    go_wp2_with fail
    go_ret
    exact ⟨rfl, hb⟩

end Go.Proofs.Ytnfldccaeibcpaa

namespace Go.Proofs.Ytnfldccaeibcpaa
set_option linter.unusedVariables false
open Go.RowKit Go.Maps Go.Sort

theorem below_via {B : Nat} {w0 w w' : World} {g : Nat} (h : Below B w0 w) (hg : w.grownBy w' (some g)) (hB : B ≤ g) (hs : B ≤ w.heap.size) : Below B w0 w' := h.grown hg hs (fun k hk => by injection hk with hk; omega)
theorem equB_refl' (x : La) : equB x x = true := by simp [equB, sameB, conB]
/-- An advertisement without adjacencies and prefixes. -/
def bare (o s a : Int) (ov : Bool) : La := ⟨o, s, a, ov, [], []⟩
theorem bare_at (w : World) (o s a : Int) (ov : Bool) : LaAt w (laV o s a ov none 0 0 none 0 0) (bare o s a ov) := ⟨none, 0, none, 0, rfl, Rd.nil _ _, Rd.nil _ _, by simp [bare], by simp [maxLen], by simp [bare], by simp [maxLen], by simp [bare]⟩
theorem bare_valid (o s a : Int) (ov : Bool) (h0 : 0 ≤ o) (h1 : o ≤ 63) (h2 : 1 ≤ s) (h3 : s ≤ 1073741824) (h4 : 0 ≤ a) (h5 : a < 3600) : LaValid (bare o s a ov) := by
  refine ⟨⟨h0, h1⟩, ⟨h2, h3⟩, ⟨h4, by simp only [bare]; omega⟩, by simp [bare], by simp [bare], fun h => by simp only [bare] at h; omega, fun k x hk => by simp [bare] at hk, fun k x hk => by simp [bare] at hk⟩
theorem bare_purge (o s : Int) (h0 : 0 ≤ o) (h1 : o ≤ 63) (h2 : 1 ≤ s) (h3 : s ≤ 1073741824) : LaValid (bare o s 3600 false) := by
  refine ⟨⟨h0, h1⟩, ⟨h2, h3⟩, by simp [bare], by simp [bare], by simp [bare], fun h => by simp [bare], fun k x hk => by simp [bare] at hk, fun k x hk => by simp [bare] at hk⟩
theorem newI_s {x y : La} (hx : LaValid x) (hy : LaValid y) (h : x.s ≠ y.s) : newI x y = cmpI x.s y.s := by
  unfold newI
  rw [vB_t hx, vB_t hy, if_pos ⟨rfl, rfl⟩, if_neg h]

def one (x : La) (l : Int) : Db := fun i => if i = 2 then some ⟨x, l⟩ else none
theorem orgs_one (x : La) (l : Int) : orgs (one x l) = [2] := by rfl
theorem one_ok {x : La} {l : Int} (hx : LaValid x) (ho : x.o = 2) (h1 : 1 ≤ l) (h2 : l ≤ 60) : DbOk (one x l) := by
  intro i h e
  unfold one at e
  split at e
  · injection e with e; subst e; rename_i hi; subst hi
    exact ⟨hx, ho, h1, h2⟩
  · cases e
theorem one_small (x : La) (l : Int) : ∀ i, 64 ≤ i → one x l i = none := fun i hi => by unfold one; rw [if_neg (by omega)]
theorem v4 : LaValid (bare 2 4 0 false) := bare_valid 2 4 0 false (by omega) (by omega) (by omega) (by omega) (by omega) (by omega)
theorem v3 : LaValid (bare 2 3 0 false) := bare_valid 2 3 0 false (by omega) (by omega) (by omega) (by omega) (by omega) (by omega)
theorem v5 : LaValid (bare 2 5 0 false) := bare_valid 2 5 0 false (by omega) (by omega) (by omega) (by omega) (by omega) (by omega)
theorem v6 : LaValid (bare 2 5 3600 false) := bare_purge 2 5 (by omega) (by omega) (by omega) (by omega)
theorem n34 : newI (bare 2 3 0 false) (bare 2 4 0 false) = -1 := by rw [newI_s v3 v4 (by simp [bare])]; simp [bare, cmpI]
theorem n54 : newI (bare 2 5 0 false) (bare 2 4 0 false) = 1 := by rw [newI_s v5 v4 (by simp [bare])]; simp [bare, cmpI]
theorem aw_r1 : instR (fun _ => none) (bare 2 4 0 false) = 1 := by unfold instR; rw [vB_t v4, if_pos rfl]
theorem aw_r2 : instR (one (bare 2 4 0 false) 60) (bare 2 3 0 false) = 3 := by
  unfold instR; rw [vB_t v3, if_pos rfl, show one (bare 2 4 0 false) 60 (bare 2 3 0 false).o.toNat = some ⟨bare 2 4 0 false, 60⟩ from rfl]
  simp only [n34]; simp
theorem aw_r3 : instR (one (bare 2 4 0 false) 60) (bare 2 5 0 false) = 1 := by
  unfold instR; rw [vB_t v5, if_pos rfl, show one (bare 2 4 0 false) 60 (bare 2 5 0 false).o.toNat = some ⟨bare 2 4 0 false, 60⟩ from rfl]
  simp only [n54]; simp
theorem aw_e {x : La} (h : LaValid x) : instE x = 0 := by unfold instE; rw [vB_t h, if_pos rfl]
theorem aw_n1 : instN (fun _ => none) (bare 2 4 0 false) = one (bare 2 4 0 false) 60 := by
  unfold instN; rw [aw_r1, vB_t v4, if_pos ⟨rfl, rfl⟩]; funext i; unfold one; rfl
theorem aw_n2 : instN (one (bare 2 4 0 false) 60) (bare 2 3 0 false) = one (bare 2 4 0 false) 60 := by
  unfold instN; rw [aw_r2, if_neg (by omega)]
theorem aw_n3 : instN (one (bare 2 4 0 false) 60) (bare 2 5 0 false) = one (bare 2 5 0 false) 60 := by
  unfold instN; rw [aw_r3, vB_t v5, if_pos ⟨rfl, rfl⟩]; funext i
  by_cases h : i = 2
  · subst h; rfl
  · unfold one
    rw [if_neg h, if_neg (by show ¬ i = 2; exact h), if_neg h]
theorem aw_t1 : tickN 3600 (one (bare 2 5 0 false) 60) = one (bare 2 5 3600 false) 60 := by
  funext i
  by_cases h : i = 2
  · subst h; simp [tickN, one, tickH, bare, purgeX]
  · simp [tickN, one, h]
theorem aw_l1 : tickL 3600 (one (bare 2 5 0 false) 60) = [2] := by
  unfold tickL; rw [orgs_one]; simp [expH, one, tickH, bare]
theorem aw_t2 : tickN 60 (one (bare 2 5 3600 false) 60) = fun _ => none := by
  funext i
  by_cases h : i = 2
  · subst h; simp [tickN, one, tickH, bare]
  · simp [tickN, one, h]
theorem aw_l2 : tickL 60 (one (bare 2 5 3600 false) 60) = [] := by
  unfold tickL; rw [orgs_one]; simp [expH, one, tickH, bare]

end Go.Proofs.Ytnfldccaeibcpaa

namespace Go.Proofs.Ytnfldccaeibcpaa
set_option linter.unusedVariables false
open Go.RowKit

theorem fewB_t {x : La} (h : fewB x = true) : x.adj.length ≤ 300 ∧ x.pre.length ≤ 100 := by simpa [fewB] using h

theorem cmpI_neg (a b : Int) : cmpI b a = - cmpI a b := by unfold cmpI; split <;> split <;> (try split) <;> omega
theorem cmpI_bd (a b : Int) : cmpI a b = -1 ∧ a < b ∨ cmpI a b = 0 ∧ a = b ∨ cmpI a b = 1 ∧ b < a := by unfold cmpI; split <;> (try split) <;> omega
theorem cmpB_neg : ∀ (a b : List UInt8), Lib.compareBytes b a = - Lib.compareBytes a b
  | [], [] => rfl
  | [], _ :: _ => rfl
  | _ :: _, [] => rfl
  | x :: a, y :: b => by
    unfold Lib.compareBytes
    by_cases h1 : x < y
    · have h2 : ¬ y < x := fun h => absurd (UInt8.lt_trans h1 h) (UInt8.lt_irrefl _)
      simp [h1, h2]
    · by_cases h2 : y < x
      · simp [h1, h2]
      · simp [h1, h2, cmpB_neg a b]
theorem cmpB_trans : ∀ (a b c : List UInt8), 0 ≤ Lib.compareBytes a b → 0 ≤ Lib.compareBytes b c → 0 ≤ Lib.compareBytes a c
  | [], [], [] => by simp [Lib.compareBytes]
  | [], [], _ :: _ => by simp [Lib.compareBytes]
  | [], _ :: _, _ => by simp [Lib.compareBytes]
  | _ :: _, _, [] => by simp [Lib.compareBytes]
  | _ :: _, [], _ :: _ => by simp [Lib.compareBytes]
  | x :: a, y :: b, z :: c => by
    have ih := cmpB_trans a b c
    intro h1 h2
    unfold Lib.compareBytes at h1 h2 ⊢
    by_cases e1 : x < y
    · simp [e1] at h1
    · by_cases e2 : y < z
      · simp [e2] at h2
      · have e3 : ¬ x < z := fun h => by
          rw [UInt8.lt_iff_toNat_lt] at *; omega
        by_cases e4 : z < x
        · simp [e3, e4]
        · have e5 : ¬ y < x := fun h => by rw [UInt8.lt_iff_toNat_lt] at *; omega
          have e6 : ¬ z < y := fun h => by rw [UInt8.lt_iff_toNat_lt] at *; omega
          simp only [e1, e2, e3, e4, e5, e6, if_false] at h1 h2 ⊢
          exact ih h1 h2
theorem newI_v {x y : La} (hx : LaValid x) (hy : LaValid y) : newI x y = if x.s = y.s then (if (x.a == 3600) = (y.a == 3600) then Lib.compareBytes (laEnc (age0 x)) (laEnc (age0 y)) else if (x.a == 3600) = true then 1 else -1) else cmpI x.s y.s := by
  unfold newI
  rw [vB_t hx, vB_t hy]
  exact if_pos ⟨rfl, rfl⟩
/-- The number, whether it is a purge, the bytes. -/
def KeyGe (x y : La) : Prop := y.s < x.s ∨ x.s = y.s ∧ (x.a = 3600 ∧ y.a ≠ 3600 ∨ ((x.a == 3600) = (y.a == 3600)) ∧ 0 ≤ Lib.compareBytes (laEnc (age0 x)) (laEnc (age0 y)))
theorem newI_neg {x y : La} (hx : LaValid x) (hy : LaValid y) : newI y x = - newI x y := by
  rw [newI_v hx hy, newI_v hy hx]
  by_cases h : x.s = y.s
  · rw [if_pos h, if_pos h.symm]
    by_cases h2 : (x.a == 3600) = (y.a == 3600)
    · rw [if_pos h2, if_pos h2.symm]; exact cmpB_neg _ _
    · rw [if_neg h2, if_neg (fun e => h2 e.symm)]
      rcases e1 : (x.a == 3600) with _ | _ <;> rcases e2 : (y.a == 3600) with _ | _
      · rw [e1, e2] at h2; exact absurd rfl h2
      · simp
      · simp
      · rw [e1, e2] at h2; exact absurd rfl h2
  · rw [if_neg h, if_neg (fun e => h e.symm)]; exact cmpI_neg _ _
theorem newI_bd {x y : La} (hx : LaValid x) (hy : LaValid y) : -1 ≤ newI x y ∧ newI x y ≤ 1 := by
  unfold newI
  rw [vB_t hx, vB_t hy, if_pos ⟨rfl, rfl⟩]
  have h1 := cmp_bd (laEnc (age0 x)) (laEnc (age0 y))
  have h2 := cmpI_bd x.s y.s
  split
  · split
    · omega
    · split <;> omega
  · omega
theorem newI_ge {x y : La} (hx : LaValid x) (hy : LaValid y) : 0 ≤ newI x y ↔ KeyGe x y := by
  unfold newI KeyGe
  rw [vB_t hx, vB_t hy, if_pos ⟨rfl, rfl⟩]
  by_cases h : x.s = y.s
  · rw [if_pos h]
    by_cases h2 : (x.a == 3600) = (y.a == 3600)
    · rw [if_pos h2]
      constructor
      · intro h3; exact .inr ⟨h, .inr ⟨h2, h3⟩⟩
      · rintro (h3 | ⟨_, ⟨h3, h4⟩ | ⟨_, h3⟩⟩)
        · omega
        · rw [h3] at h2; simp at h2; exact absurd h2 h4
        · exact h3
    · rw [if_neg h2]
      rcases e1 : (x.a == 3600) with _ | _ <;> rcases e2 : (y.a == 3600) with _ | _
      · rw [e1, e2] at h2; exact absurd rfl h2
      · simp only [beq_eq_false_iff_ne, beq_iff_eq] at e1 e2
        constructor
        · intro h3; simp at h3
        · rintro (h3 | ⟨_, ⟨h3, h4⟩ | ⟨h3, _⟩⟩)
          · omega
          · exact absurd h3 e1
          · cases h3
      · simp only [beq_eq_false_iff_ne, beq_iff_eq] at e1 e2
        constructor
        · intro _; exact .inr ⟨h, .inl ⟨e1, e2⟩⟩
        · intro _; simp
      · rw [e1, e2] at h2; exact absurd rfl h2
  · rw [if_neg h]
    have := cmpI_bd x.s y.s
    constructor
    · intro h3; left; omega
    · rintro (h3 | ⟨h3, _⟩)
      · omega
      · exact absurd h3 h
theorem KeyGe.trans {x y z : La} (h1 : KeyGe x y) (h2 : KeyGe y z) : KeyGe x z := by
  unfold KeyGe at *
  rcases h1 with h1 | ⟨e1, h1⟩
  · rcases h2 with h2 | ⟨e2, _⟩
    · left; omega
    · left; omega
  · rcases h2 with h2 | ⟨e2, h2⟩
    · left; omega
    · right
      refine ⟨by omega, ?_⟩
      rcases h1 with ⟨a1, b1⟩ | ⟨a1, b1⟩
      · rcases h2 with ⟨a2, b2⟩ | ⟨a2, b2⟩
        · exact absurd a2 b1
        · left
          refine ⟨a1, fun h => b1 ?_⟩
          rw [h] at a2; simpa using a2
      · rcases h2 with ⟨a2, b2⟩ | ⟨a2, b2⟩
        · left
          refine ⟨?_, b2⟩
          rw [a2] at a1; simpa using a1
        · right
          exact ⟨a1.trans a2, cmpB_trans _ _ _ b1 b2⟩
/-- 0 exactly for advertisements of the same contents. -/
theorem newI_zero {x y : La} (hx : LaOk x) (hy : LaOk y) : (newI x y == 0) = sameB x y := by
  have hz : newI x y = 0 ↔ sameB x y = true := by
    unfold newI
    rw [vB_t hx.1, vB_t hy.1, if_pos ⟨rfl, rfl⟩]
    have hinj : laEnc (age0 x) = laEnc (age0 y) ↔ age0 x = age0 y := ⟨fun h => laEnc_inj ⟨age0_valid hx.1, hx.2⟩ ⟨age0_valid hy.1, hy.2⟩ h, fun h => by rw [h]⟩
    have hs := cmpI_bd x.s y.s
    simp only [sameB, conB, Bool.and_eq_true, beq_iff_eq, decide_eq_true_iff]
    by_cases h : x.s = y.s
    · rw [if_pos h]
      by_cases h2 : (x.a == 3600) = (y.a == 3600)
      · rw [if_pos h2, cmp_eq0, hinj]
        obtain ⟨o, s, a, ov, adj, pre⟩ := x
        obtain ⟨o', s', a', ov', adj', pre'⟩ := y
        simp only [age0, La.mk.injEq, true_and]
        constructor
        · rintro ⟨rfl, rfl, rfl, rfl, rfl⟩; exact ⟨rfl, rfl, h2, rfl, rfl, rfl⟩
        · rintro ⟨rfl, rfl, _, rfl, rfl, rfl⟩; exact ⟨rfl, rfl, rfl, rfl, rfl⟩
      · rw [if_neg h2]
        constructor
        · intro h3; split at h3 <;> omega
        · rintro ⟨_, _, h3, _⟩; exact absurd h3 h2
    · rw [if_neg h]
      constructor
      · intro h3; omega
      · rintro ⟨_, h3, _⟩; exact absurd h3 h
  rw [Bool.eq_iff_iff, beq_iff_eq]; exact hz
/-- Transitivity, as the law says it. -/
theorem newI_tr {x y z : La} (hx : LaValid x) (hy : LaValid y) (hz : LaValid z) (h1 : 0 ≤ newI x y) (h2 : 0 ≤ newI y z) : 0 ≤ newI x z ∧ (newI x y + newI y z = 0 ↔ newI x z = 0) := by
  have h3 := (newI_ge hx hz).2 (((newI_ge hx hy).1 h1).trans ((newI_ge hy hz).1 h2))
  refine ⟨h3, fun h => ?_, fun h => ?_⟩
  · have e1 : newI y x = 0 := by rw [newI_neg hx hy]; omega
    have e2 : newI z y = 0 := by rw [newI_neg hy hz]; omega
    have h4 := (newI_ge hz hx).2 (((newI_ge hz hy).1 (by omega)).trans ((newI_ge hy hx).1 (by omega)))
    rw [newI_neg hx hz] at h4
    omega
  · have e3 : newI z x = 0 := by rw [newI_neg hx hz]; omega
    have a1 := (newI_ge hz hy).2 (((newI_ge hz hx).1 (by omega)).trans ((newI_ge hx hy).1 h1))
    have a2 := (newI_ge hy hx).2 (((newI_ge hy hz).1 h2).trans ((newI_ge hz hx).1 (by omega)))
    rw [newI_neg hy hz] at a1
    rw [newI_neg hx hy] at a2
    omega
theorem newI_tr2 {x y z : La} (hx : LaValid x) (hy : LaValid y) (hz : LaValid z) (h1 : newI x y ≤ 0) (h2 : newI y z ≤ 0) (h : newI x y < 0 ∨ newI y z < 0) : newI x z < 0 := by
  have e1 := newI_neg hx hy
  have e2 := newI_neg hy hz
  have e3 := newI_neg hx hz
  obtain ⟨h3, h4⟩ := newI_tr hz hy hx (by omega) (by omega)
  have : ¬ newI z x = 0 := fun e => by have := h4.2 e; omega
  omega

end Go.Proofs.Ytnfldccaeibcpaa

namespace Go.Proofs.Ytnfldccaeibcpaa
set_option linter.unusedVariables false
open Go.RowKit

noncomputable def insts (l : List La) : Db := l.foldl instN (fun _ => none)
/-- What holds behind the installation of l. -/
def NwAt (l : List La) (N : Db) (i : Nat) : Prop := match N i with
  | none => ∀ a ∈ l, a.o.toNat ≠ i
  | some h => h.x ∈ l ∧ h.x.o.toNat = i ∧ h.l = 60 ∧ ∀ a ∈ l, a.o.toNat = i → newI a h.x ≤ 0
theorem insts_snoc (l : List La) (a : La) : insts (l ++ [a]) = instN (insts l) a := by unfold insts; rw [List.foldl_append]; rfl

theorem newI_self {x : La} (h : LaValid x) : newI x x = 0 := by have := newI_neg h h; omega
theorem nw_snoc {l : List La} {N : Db} (hl : ∀ a ∈ l, LaValid a) (h : ∀ i, NwAt l N i) {a : La} (ha : LaValid a) (i : Nat) : NwAt (l ++ [a]) (instN N a) i := by
  have hi := h i
  by_cases hia : i = a.o.toNat
  · subst hia
    unfold NwAt at hi
    cases hN : N a.o.toNat with
    | none =>
      rw [hN] at hi
      have hr : instR N a = 1 := by unfold instR; rw [vB_t ha, if_pos rfl, hN]
      have he : instN N a a.o.toNat = some ⟨a, 60⟩ := by unfold instN; rw [hr, vB_t ha, if_pos ⟨rfl, rfl⟩, if_pos rfl]
      unfold NwAt
      rw [he]
      refine ⟨by simp, rfl, rfl, fun b hb hbo => ?_⟩
      rcases List.mem_append.1 hb with hb | hb
      · exact absurd hbo (hi b hb)
      · rw [List.mem_singleton.1 hb, newI_self ha]; omega
    | some x =>
      rw [hN] at hi
      obtain ⟨hm, ho, hlf, hle⟩ := hi
      have hx := hl _ hm
      have hbd := newI_bd ha hx
      by_cases h1 : newI a x.x = 1
      · have hr : instR N a = 1 := by unfold instR; rw [vB_t ha, if_pos rfl, hN]; simp only [h1]; simp
        have he : instN N a a.o.toNat = some ⟨a, 60⟩ := by unfold instN; rw [hr, vB_t ha, if_pos ⟨rfl, rfl⟩, if_pos rfl]
        unfold NwAt
        rw [he]
        refine ⟨by simp, rfl, rfl, fun b hb hbo => ?_⟩
        rcases List.mem_append.1 hb with hb | hb
        · have hbv := hl b hb
          have h2 := hle b hb hbo
          have h3 := newI_neg hbv hx
          have h4 := newI_neg ha hbv
          have h5 := (newI_tr ha hx hbv (by omega) (by omega)).1
          show newI b a ≤ 0
          omega
        · rw [List.mem_singleton.1 hb, newI_self ha]; omega
      · have hr : instR N a ≠ 1 := by
          unfold instR; rw [vB_t ha, if_pos rfl, hN]
          have : newI a x.x = 0 ∨ newI a x.x = -1 := by omega
          rcases this with e | e <;> simp [e]
        have he : instN N a = N := by unfold instN; rw [if_neg (fun e => hr e.2)]
        unfold NwAt
        rw [he, hN]
        refine ⟨by simp [hm], ho, hlf, fun b hb hbo => ?_⟩
        rcases List.mem_append.1 hb with hb | hb
        · exact hle b hb hbo
        · rw [List.mem_singleton.1 hb]; omega
  · have he : instN N a i = N i := by
      unfold instN
      split
      · exact if_neg hia
      · rfl
    unfold NwAt at hi ⊢
    rw [he]
    cases hN : N i with
    | none =>
      rw [hN] at hi
      intro b hb
      rcases List.mem_append.1 hb with hb | hb
      · exact hi b hb
      · rw [List.mem_singleton.1 hb]; exact fun e => hia e.symm
    | some x =>
      rw [hN] at hi
      obtain ⟨hm, ho, hlf, hle⟩ := hi
      refine ⟨by simp [hm], ho, hlf, fun b hb hbo => ?_⟩
      rcases List.mem_append.1 hb with hb | hb
      · exact hle b hb hbo
      · rw [List.mem_singleton.1 hb] at hbo; exact absurd hbo.symm hia

theorem nw_take {l : List La} (hl : ∀ a ∈ l, LaValid a) : ∀ k, k ≤ l.length → ∀ i, NwAt (l.take k) (insts (l.take k)) i
  | 0, _ => fun i => by
    rw [List.take_zero]
    show NwAt [] (fun _ => none) i
    unfold NwAt
    simp
  | k + 1, hk => fun i => by
    rw [List.take_succ_eq_append_getElem (by omega), insts_snoc]
    exact nw_snoc (fun a ha => hl a (List.mem_of_mem_take ha)) (nw_take hl k (by omega)) (hl _ (List.getElem_mem _)) i
theorem nw_all {l : List La} (hl : ∀ a ∈ l, LaValid a) (i : Nat) : NwAt l (insts l) i := by
  have h := nw_take hl l.length (Nat.le_refl _) i
  rwa [List.take_length] at h
/-- What is held is one of those that were installed. -/
theorem insts_mem {l : List La} (hl : ∀ a ∈ l, LaValid a) {i : Nat} {h : Hd} (e : insts l i = some h) : h.x ∈ l ∧ h.x.o.toNat = i ∧ h.l = 60 ∧ ∀ a ∈ l, a.o.toNat = i → newI a h.x ≤ 0 := by
  have := nw_all hl i
  unfold NwAt at this
  rw [e] at this
  exact this
theorem insts_ok {l : List La} (hl : ∀ a ∈ l, LaValid a) : DbOk (insts l) := fun i h e => by
  obtain ⟨h1, h2, h3, _⟩ := insts_mem hl e
  have hv := hl _ h1
  have ho := hv.1
  exact ⟨hv, by omega, by omega, by omega⟩
theorem insts_small {l : List La} (hl : ∀ a ∈ l, LaValid a) : ∀ i, 64 ≤ i → insts l i = none := fun i hi => by
  cases e : insts l i with
  | none => rfl
  | some h =>
    obtain ⟨h1, h2, _⟩ := insts_mem hl e
    have := (hl _ h1).1
    omega
/-- What is held for the origin of one of them. -/
theorem insts_get {l : List La} (hl : ∀ a ∈ l, LaValid a) {a : La} (ha : a ∈ l) : ∃ h, getO (insts l) a.o = some h ∧ h.x ∈ l ∧ newI a h.x ≤ 0 := by
  have ho := (hl a ha).1
  have e1 : getO (insts l) a.o = insts l a.o.toNat := by unfold getO; rw [if_pos ⟨ho.1, by omega⟩]
  cases e : insts l a.o.toNat with
  | none =>
    have := nw_all hl a.o.toNat
    unfold NwAt at this
    rw [e] at this
    exact absurd rfl (this a ha)
  | some h =>
    obtain ⟨h1, h2, _, h4⟩ := insts_mem hl e
    exact ⟨h, by rw [e1, e], h1, h4 a ha rfl⟩
theorem sameB_refl (x : La) : sameB x x = true := by simp [sameB, conB]

end Go.Proofs.Ytnfldccaeibcpaa

namespace Go.Proofs.Ytnfldccaeibcpaa
set_option linter.unusedVariables false
open Go.RowKit Go.Sort Go.ChangeShapes Go.WideShapes Go.ChangeAt

/-- An advertisement as it lies in memory. -/
structure Lx where
  y : La
  A : Option Addr
  c : Nat
  B : Option Addr
  d : Nat
def lxL (s : Lx) : List Value := [.int .i64 s.y.o, .int .i64 s.y.s, .int .i64 s.y.a, .bool s.y.ov, .slice s.A s.y.adj.length s.c, .slice s.B s.y.pre.length s.d]
def lxV : List Lx → List Value
  | [] => []
  | s :: l => lxL s ++ lxV l
def LxOk (w : World) (s : Lx) : Prop := LaAt w (laV s.y.o s.y.s s.y.a s.y.ov s.A s.y.adj.length s.c s.B s.y.pre.length s.d) s.y
theorem lxV_len (l : List Lx) : (lxV l).length = l.length * 6 := by
  induction l with
  | nil => rfl
  | cons r l ih => simp only [lxV, lxL, List.length_append, List.length_cons, List.length_nil, ih]; omega
theorem lxV_get (l : List Lx) : ∀ (k : Nat) (hk : k < l.length) (j : Nat) (hj : j < 6), (lxV l)[6 * k + j]? = (lxL l[k])[j]? := by
  induction l with
  | nil => intro k hk; simp at hk
  | cons r l ih =>
    intro k hk j hj
    have h8 : (lxL r).length = 6 := rfl
    cases k with
    | zero => simp only [lxV, List.getElem_cons_zero]; rw [List.getElem?_append_left (by omega)]; simp
    | succ k =>
      simp only [lxV, List.getElem_cons_succ]
      rw [List.getElem?_append_right (by omega), h8, show 6 * (k + 1) + j - 6 = 6 * k + j by omega]
      exact ih k (by simpa using hk) j hj
theorem rd_lx {w : World} {A : Option Addr} {l : List Lx} (h : Rd w A (lxV l)) (hn : 0 < l.length) :
    ∃ b off, A = some ⟨b, off, none⟩ ∧ ∀ k (hk : k < l.length) j (u : Value), j < 6 → (lxL l[k])[j]? = some u → w.cell? ⟨b, off + k * 6 + j, none⟩ = some u := by
  obtain ⟨b, off, e, hc⟩ := rd_at h (by rw [lxV_len]; omega)
  refine ⟨b, off, e, fun k hk j u hj hu => ?_⟩
  rw [Nat.add_assoc]
  exact hc _ _ (by rw [Nat.mul_comm k 6, lxV_get l k hk j hj]; exact hu)
theorem rep_las {w : World} {xs : List La} : ∀ {vs : List Value}, Rep (IsLa w) 6 xs vs → ∃ l : List Lx, vs = lxV l ∧ l.length = xs.length ∧ ∀ s ∈ l, LxOk w s := by
  induction xs with
  | nil => intro vs h; exact ⟨[], h, rfl, by simp⟩
  | cons b t ih =>
    rintro vs ⟨cs', q, rfl, ⟨hla, hl6⟩, _, hr⟩
    obtain ⟨l, rfl, hl, hok⟩ := ih hr
    obtain ⟨A, cc, B, d, hv, hat⟩ := hla.opened
    have hcs : cs' = [.int .i64 b.o, .int .i64 b.s, .int .i64 b.a, .bool b.ov, .slice A b.adj.length cc, .slice B b.pre.length d] := by
      simp only [laV, Value.agg.injEq] at hv
      have := congrArg Array.toList hv
      simpa using this
    subst hcs
    refine ⟨⟨b, A, cc, B, d⟩ :: l, rfl, by simp [hl], fun s hs => ?_⟩
    rcases List.mem_cons.1 hs with rfl | hs
    · exact hat
    · exact hok s hs

section
variable {H : Type} {enc : TypeId × Value → H} {w : World} {base : Nat} {spare : Nat → Bool} {held : Bool} {r : Reach} {b0 : Nat} {v : Value} {d : DataW H} {ps : List MemPlace}
set_option maxRecDepth 100000 in
theorem arg_las (hv : Value.okWide Try.prog w r b0 24 v) (h : DataW.Trod enc Try.prog w base spare held 24 v d ps) :
    ∃ (A : Option Addr) (n c : Nat) (l : List Lx), v = .slice A n c ∧ Rd w A (lxV l) ∧ l.length = n ∧ n ≤ maxLen ∧ ∀ s ∈ l, LxOk w s := by
  obtain ⟨A, n, c, x, rfl, A', c', vs, h1, h2, h3, h4, h5⟩ := arg_slice Try.underlying24 (opens_slice Try.underlying24 (by kernel_rfl) (opens_la w)) hv h
  simp only [List.cons.injEq, Value.slice.injEq, and_true] at h1
  obtain ⟨rfl, rfl, rfl⟩ := h1
  rw [show Try.prog.cellsOf 45 = 6 from by kernel_rfl] at h4
  obtain ⟨l, rfl, hl, hok⟩ := rep_las h4
  exact ⟨A, _, c, l, rfl, h5, hl, Nat.le_trans h2 h3, hok⟩
end

end Go.Proofs.Ytnfldccaeibcpaa

namespace Go.Proofs.Ytnfldccaeibcpaa
set_option linter.unusedVariables false
open Go.RowKit Go.Maps Go.Sort

/-- The cells of an element. -/
theorem lx_cells {w : World} {b off : Nat} {l : List Lx} (h : Rd w (some ⟨b, off, none⟩) (lxV l)) (k : Nat) (hk : k < l.length) (s : Lx) (hs : l[k] = s) :
    w.cell? ⟨b, off + k * 6, none⟩ = some (.int .i64 s.y.o) ∧ w.cell? ⟨b, off + k * 6 + 1, none⟩ = some (.int .i64 s.y.s) ∧ w.cell? ⟨b, off + k * 6 + 2, none⟩ = some (.int .i64 s.y.a) ∧
    w.cell? ⟨b, off + k * 6 + 3, none⟩ = some (.bool s.y.ov) ∧ w.cell? ⟨b, off + k * 6 + 4, none⟩ = some (.slice s.A s.y.adj.length s.c) ∧ w.cell? ⟨b, off + k * 6 + 5, none⟩ = some (.slice s.B s.y.pre.length s.d) := by
  subst hs
  obtain ⟨b', off', e, hc⟩ := rd_lx h (by omega)
  injection e with e
  injection e with e1 e2 e3
  subst e1 e2
  have x0 := hc k hk 0 _ (by omega) rfl
  have x1 := hc k hk 1 _ (by omega) rfl
  have x2 := hc k hk 2 _ (by omega) rfl
  have x3 := hc k hk 3 _ (by omega) rfl
  have x4 := hc k hk 4 _ (by omega) rfl
  have x5 := hc k hk 5 _ (by omega) rfl
  simp only [Nat.add_zero] at x0
  exact ⟨x0, x1, x2, x3, x4, x5⟩
theorem lx_form {w : World} {A : Option Addr} {l : List Lx} (h : Rd w A (lxV l)) (hn : 0 < l.length) : ∃ b off, A = some ⟨b, off, none⟩ := by
  obtain ⟨b, off, e, _⟩ := rd_lx h hn
  exact ⟨b, off, e⟩
theorem St.via {W w w' : World} {bs : List (Nat × List Value)} {rs : List (Option Addr × List Value)} {g : Nat} (S : St W w bs rs) (hg : w.grownBy w' (some g)) (hB : W.heap.size ≤ g) (hd : ∀ x ∈ bs, x.1 ≠ g ∧ 0 < x.2.length) : St W w' bs rs :=
  ⟨below_via S.b hg hB S.b.size, fun i x hx => (S.bx i x hx).kept hg (fun e => by injection e with e; exact (hd x (List.mem_of_getElem? hx)).1 e) (hd x (List.mem_of_getElem? hx)).2, S.rd⟩
/-- The advertisements of a list. -/
abbrev laL (l : List Lx) : List La := l.map (·.y)
theorem laL_get (l : List Lx) (k : Nat) (hk : k < l.length) : (laL l)[k]'(by simpa [laL] using hk) = l[k].y := by simp [laL]
theorem insts_next (l : List Lx) (k : Nat) (hk : k < l.length) : insts ((laL l).take (k + 1)) = instN (insts ((laL l).take k)) l[k].y := by
  rw [List.take_succ_eq_append_getElem (by simpa [laL] using hk), insts_snoc, laL_get l k hk]
def AllV (l : List La) : Prop := ∀ a ∈ l, LaValid a ∧ fewB a = true
theorem allV_next {l : List Lx} {k : Nat} (hk : k < l.length) (h : AllV ((laL l).take k)) (h1 : LaValid l[k].y) (h2 : fewB l[k].y = true) : AllV ((laL l).take (k + 1)) := by
  rw [List.take_succ_eq_append_getElem (by simpa [laL] using hk), laL_get l k hk]
  intro a ha
  rcases List.mem_append.1 ha with ha | ha
  · exact h a ha
  · rw [List.mem_singleton.1 ha]; exact ⟨h1, h2⟩
theorem fnd_next (l : List Lx) (x : La) (k : Nat) (hk : k < l.length) : ((laL l).take (k + 1)).any (fun a => sameB a x) = (((laL l).take k).any (fun a => sameB a x) || sameB l[k].y x) := by
  rw [List.take_succ_eq_append_getElem (by simpa [laL] using hk), laL_get l k hk, List.any_append]
  simp

end Go.Proofs.Ytnfldccaeibcpaa

namespace Go.Proofs.Ytnfldccaeibcpaa
set_option linter.unusedVariables false
open Go.RowKit Go.Maps Go.Sort

/-! ### A database that may be nil -/
def DbP (w : World) (v : Value) (N : Db) : Prop := (v = .pointer none ∧ N = fun _ => none) ∨ ∃ g b, v = .pointer (some ⟨g, 0, none⟩) ∧ DbAt w g b N
theorem DbAt.p {w : World} {g b : Nat} {N : Db} (h : DbAt w g b N) : DbP w (.pointer (some ⟨g, 0, none⟩)) N := .inr ⟨g, b, rfl, h⟩
theorem DbP.nil (w : World) : DbP w (.pointer none) (fun _ => none) := .inl ⟨rfl, rfl⟩
theorem DbP.below {w w' : World} {v : Value} {N : Db} (h : DbP w v N) (hb : Below w.heap.size w w') : DbP w' v N := by
  rcases h with h | ⟨g, b, e, h⟩
  · exact .inl h
  · exact .inr ⟨g, b, e, h.below hb⟩
theorem orgs_nil : orgs (fun _ => none) = [] := by
  unfold orgs
  rw [List.filter_eq_nil_iff]
  intro i _; simp
theorem dorigins_p (w : World) (v : Value) (N : Db) (h : DbP w v N) : Calls Try.prog 38 #[v] w fun e w' => ∃ A c, e = .returned (.slice A (orgs N).length c) ∧ Rd w' A ((orgs N).map encZ) ∧ Below w.heap.size w w' := by
  rcases h with ⟨rfl, rfl⟩ | ⟨g, b, rfl, h⟩
  · refine (dorigins_nil w).mono ?_
    rintro e w' ⟨rfl, rfl⟩
    rw [orgs_nil]
    exact ⟨none, 0, rfl, Rd.nil _ _, Below.refl _ _⟩
  · refine (dorigins_any w g b N h).mono ?_
    rintro e w' ⟨A, c, he, ho, hb⟩
    exact ⟨A, c, he, own_slice ho, hb⟩
/-- What is held for a number. -/
theorem DbAt.el {w : World} {g b : Nat} {N : Db} (h : DbAt w g b N) {q : Nat} (hq : q < 64) {hh : Hd} (hN : N q = some hh) :
    ∃ A c B d, (∀ w', Below w.heap.size w w' → (Instr.lookup 101 (.map (some b)) (.int .i64 (q : Int)) false).run Try.prog w' = .ok (hdV hh.x A c B d hh.l) w') ∧ LaAt w (laV hh.x.o hh.x.s hh.x.a hh.x.ov A hh.x.adj.length c B hh.x.pre.length d) hh.x := by
  obtain ⟨⟨M, hm, he⟩, hc⟩ := h
  have heq := he q hq
  rw [hN] at heq
  cases hM : M (q : Int) with
  | none => rw [hM] at heq; exact heq.elim
  | some vv =>
    rw [hM] at heq
    obtain ⟨A, c, B, d, rfl, hla⟩ := heq
    refine ⟨A, c, B, d, fun w' hb => ?_, hla.1⟩
    have := (hm.below hb).run_at (i := (q : Int)) (wf64 (by omega) (by omega))
    rw [hM] at this
    exact this
/-- Behind another database's turn. -/
theorem DbAt.keptOther {w w' : World} {g b b' : Nat} {N : Db} {M' : Int → Option Value} (h : DbAt w g b N) (hm' : MapIs w b' M') (hg : w.grownBy w' (some b')) (hne : b ≠ b') : DbAt w' g b N := by
  obtain ⟨⟨M, hm, he⟩, hc⟩ := h
  refine ⟨⟨M, hm.kept hg (fun e => by injection e with e; exact hne e.symm), fun i hi => (he i hi).keptMap hm' hg⟩, ?_⟩
  rw [World.cell?_of_block (a := ⟨g, 0, none⟩) (hg.block g (World.block_lt_of_cell? _ _ hc) (fun e => by injection e with e; subst e; rw [hm'.no_cell] at hc; cases hc))]
  exact hc
theorem DbAt.map {w : World} {g b : Nat} {N : Db} (h : DbAt w g b N) : ∃ M, MapIs w b M := by
  obtain ⟨⟨M, hm, _⟩, _⟩ := h
  exact ⟨M, hm⟩

/-- 'x.a'. -/
theorem hd_field (x : La) (A : Option Addr) (c : Nat) (B : Option Addr) (d : Nat) (l : Int) (W : World) : (Instr.field 111 (hdV x A c B d l) 0).run Try.prog W = .ok (laV x.o x.s x.a x.ov A x.adj.length c B x.pre.length d) W := by kernel_rfl

/-- What Equal answers. -/
def sameAt (N M : Db) (i : Int) : Bool := match N i.toNat, M i.toNat with | some a, some b => sameB a.x b.x | _, _ => true
def eqDb (N M : Db) : Bool := decide (orgs N = orgs M) && (orgs N).all (sameAt N M)

end Go.Proofs.Ytnfldccaeibcpaa

namespace Go.Proofs.Ytnfldccaeibcpaa
set_option linter.unusedVariables false
open Go.RowKit Go.Maps Go.Sort

/-- An origin's place: an advertisement as it lies in memory, what is left of it, whether it is there. -/
structure Rs where
  x : Lx
  l : Int
  is : Bool
def hdL (s : Rs) : List Value := lxL s.x ++ [.int .i64 s.l]
def atsC (R : Nat → Rs) : Nat → List Value
  | 0 => []
  | n + 1 => atsC R n ++ hdL (R n)
def rdC (R : Nat → Rs) : List Value := (List.range 64).map (fun i => .bool (R i).is) ++ atsC R 64
section
variable (R : Nat → Rs)
theorem hdL_len (s : Rs) : (hdL s).length = 7 := rfl
theorem atsC_len : ∀ n, (atsC R n).length = n * 7
  | 0 => rfl
  | n + 1 => by rw [atsC, List.length_append, atsC_len n, hdL_len]; omega
theorem atsC_at : ∀ n i, i < n → ∀ j, j < 7 → (atsC R n)[i * 7 + j]? = (hdL (R i))[j]?
  | 0, i, h => by omega
  | n + 1, i, h => fun j hj => by
    rw [atsC]
    by_cases e : i = n
    · subst e
      rw [List.getElem?_append_right (by rw [atsC_len]; omega), atsC_len]
      congr 1; omega
    · rw [List.getElem?_append_left (by rw [atsC_len]; omega)]
      exact atsC_at n i (by omega) j hj
theorem rdC_len : (rdC R).length = 512 := by unfold rdC; rw [List.length_append, atsC_len]; simp
theorem rdC_is {i : Nat} (hi : i < 64) : (rdC R)[i]? = some (.bool (R i).is) := by
  unfold rdC
  rw [List.getElem?_append_left (by simpa using hi)]
  simp [hi]
theorem rdC_at {i : Nat} (hi : i < 64) {j : Nat} (hj : j < 7) : (rdC R)[64 + i * 7 + j]? = (hdL (R i))[j]? := by
  unfold rdC
  rw [List.getElem?_append_right (by simp; omega)]
  simp only [List.length_map, List.length_range]
  rw [show 64 + i * 7 + j - 64 = i * 7 + j by omega]
  exact atsC_at R 64 i hi j hj
end
theorem rdC_ext {l : List Value} {R : Nat → Rs} (hl : l.length = 512) (h1 : ∀ i, i < 64 → l[i]? = some (.bool (R i).is)) (h2 : ∀ i, i < 64 → ∀ j, j < 7 → l[64 + i * 7 + j]? = (hdL (R i))[j]?) : l = rdC R := by
  apply List.ext_getElem?
  intro n
  by_cases h : n < 64
  · rw [h1 n h, rdC_is R h]
  · by_cases h5 : n < 512
    · have e : n = 64 + (n - 64) / 7 * 7 + (n - 64) % 7 := by omega
      rw [e, h2 _ (by omega) _ (by omega), rdC_at R (by omega) (by omega)]
    · rw [List.getElem?_eq_none (by omega), List.getElem?_eq_none (by rw [rdC_len]; omega)]
def upR (R : Nat → Rs) (i : Nat) (s : Rs) : Nat → Rs := fun j => if j = i then s else R j
theorem upR_same (R : Nat → Rs) (i : Nat) (s : Rs) : upR R i s i = s := by simp [upR]
theorem upR_other (R : Nat → Rs) {i j : Nat} (s : Rs) (h : j ≠ i) : upR R i s j = R j := by simp [upR, h]
theorem upR_upR (R : Nat → Rs) (i : Nat) (s s' : Rs) : upR (upR R i s) i s' = upR R i s' := by funext j; unfold upR; split <;> rfl
theorem rdC_set_is (R : Nat → Rs) {i : Nat} (hi : i < 64) (b : Bool) : (rdC R).set i (.bool b) = rdC (upR R i { R i with is := b }) := by
  refine rdC_ext (by rw [List.length_set, rdC_len]) (fun k hk => ?_) (fun k hk j hj => ?_)
  · by_cases e : i = k
    · subst e
      rw [List.getElem?_set_self (by rw [rdC_len]; omega), upR_same]
    · rw [List.getElem?_set_ne e, rdC_is R hk, upR_other R _ (fun h => e h.symm)]
  · rw [List.getElem?_set_ne (by omega), rdC_at R hk hj]
    by_cases e : i = k
    · subst e; rw [upR_same]; rfl
    · rw [upR_other R _ (fun h => e h.symm)]
theorem rdC_set_at (R : Nat → Rs) {i : Nat} (hi : i < 64) {j : Nat} (hj : j < 7) (v : Value) (s : Rs) (hs : s.is = (R i).is) (hv : (hdL (R i)).set j v = hdL s) : (rdC R).set (64 + i * 7 + j) v = rdC (upR R i s) := by
  refine rdC_ext (by rw [List.length_set, rdC_len]) (fun k hk => ?_) (fun k hk m hm => ?_)
  · rw [List.getElem?_set_ne (by omega), rdC_is R hk]
    by_cases e : i = k
    · subst e; rw [upR_same, hs]
    · rw [upR_other R _ (fun h => e h.symm)]
  · by_cases e : i = k
    · subst e
      rw [upR_same, ← hv]
      by_cases e2 : j = m
      · subst e2
        rw [List.getElem?_set_self (by rw [rdC_len]; omega), List.getElem?_set_self (by rw [hdL_len]; omega)]
      · rw [List.getElem?_set_ne (by omega), List.getElem?_set_ne e2, rdC_at R hi hm]
    · rw [upR_other R _ (fun h => e h.symm), List.getElem?_set_ne (by omega), rdC_at R hk hm]
theorem rdC_one (R : Nat → Rs) : ∀ v ∈ rdC R, v.oneCell' = true := by
  intro v hv
  obtain ⟨n, hn, rfl⟩ := List.getElem_of_mem hv
  rw [rdC_len] at hn
  by_cases h : n < 64
  · have := rdC_is R h
    rw [List.getElem?_eq_getElem (by rw [rdC_len]; omega)] at this
    injection this with this
    rw [this]; rfl
  · have e : n = 64 + (n - 64) / 7 * 7 + (n - 64) % 7 := by omega
    have := rdC_at R (i := (n - 64) / 7) (by omega) (j := (n - 64) % 7) (by omega)
    rw [← e, List.getElem?_eq_getElem (by rw [rdC_len]; omega)] at this
    have hm := List.mem_of_getElem? this.symm
    simp only [hdL, lxL, List.cons_append, List.nil_append, List.mem_cons, List.not_mem_nil, or_false] at hm
    rcases hm with e | e | e | e | e | e | e <;> rw [e] <;> rfl
/-- What the database holds. -/
def dbOf (R : Nat → Rs) : Db := fun i => if i < 64 ∧ (R i).is = true then some ⟨(R i).x.y, (R i).l⟩ else none
theorem dbOf_small (R : Nat → Rs) : ∀ i, 64 ≤ i → dbOf R i = none := fun i hi => if_neg (by omega)
/-- All advertisements, the gone ones too, can be read. -/
def RdOk (w : World) (R : Nat → Rs) : Prop := ∀ i, i < 64 → LxOk w (R i).x
theorem RdOk.below {w w' : World} {R : Nat → Rs} (h : RdOk w R) (hb : Below w.heap.size w w') : RdOk w' R := fun i hi => by
  have := h i hi
  unfold LxOk at *
  exact this.below hb
theorem RdOk.up {w : World} {R : Nat → Rs} (h : RdOk w R) (i : Nat) (s : Rs) (hs : LxOk w s.x) : RdOk w (upR R i s) := fun j hj => by
  by_cases e : j = i
  · subst e; rw [upR_same]; exact hs
  · rw [upR_other R _ e]; exact h j hj
def lxZ : Lx := ⟨laZero, none, 0, none, 0⟩
def rsZ : Rs := ⟨lxZ, 0, false⟩
theorem rsZ_ok (w : World) : RdOk w (fun _ => rsZ) := fun i _ => (laZero_own w w.heap.size).at
theorem dbOf_zero : dbOf (fun _ => rsZ) = fun _ => none := by funext i; unfold dbOf; rw [if_neg (by simp [rsZ])]
set_option maxRecDepth 100000 in
theorem rdC_zero : (rdC (fun _ => rsZ)).toArray = Try.zeroCells86 := by kernel_rfl

/-! ### In memory -/
theorem Box.range {w : World} {g : Nat} {cs : List Value} (h : Box w g cs) : w.rangeAt g 0 cs := fun j v hv => by rw [Nat.zero_add]; exact (h j v hv).1
theorem Box.there {w : World} {g : Nat} {cs : List Value} (h : Box w g cs) {n : Nat} (hn : cs.length = n) : w.there g 0 n := fun j hj => by
  have := h j _ (List.getElem?_eq_getElem (by omega))
  rw [Nat.zero_add]
  exact ⟨by rw [this.1]; rfl, this.2⟩
theorem Box.setAll {w : World} {g : Nat} {cs : List Value} (h : Box w g cs) (cs' : List Value) (hl : cs'.length = cs.length) : Box (w.setCells g 0 cs') g cs' := fun i u hu => by
  have h1 := World.rangeAt_setCells_same w g 0 cs' (by rw [hl]; exact h.there rfl) i u hu
  rw [Nat.zero_add] at h1
  refine ⟨h1, ?_⟩
  rw [World.frozen?_setCells]
  exact (h i _ (List.getElem?_eq_getElem (by have := (List.getElem?_eq_some_iff.1 hu).1; omega))).2
theorem Box.farAll {w : World} {g : Nat} {cs : List Value} (h : Box w g cs) (g' o : Nat) (vs : List Value) (hk : g' ≠ g) : Box (w.setCells g' o vs) g cs := fun i u hu => by
  refine ⟨?_, by rw [World.frozen?_setCells]; exact (h i u hu).2⟩
  rw [World.cell?_setCells_out g' vs o w ⟨g, i, none⟩ (fun e _ => absurd e.symm hk)]
  exact (h i u hu).1
theorem below_setCells {W : World} {g : Nat} (hg : W.heap.size ≤ g) : ∀ (vs : List Value) (o : Nat) (w : World), Below W.heap.size W w → Below W.heap.size W (w.setCells g o vs)
  | [], _, _, h => h
  | v :: r, o, w, h => by
    rw [World.setCells]
    exact below_setCells hg r (o + 1) _ (h.setCell (p := ⟨g, o, none⟩) hg v)
/-- All cells of a box stored anew. -/
theorem St.setAll {W w : World} {bs : List (Nat × List Value)} {rs : List (Option Addr × List Value)} (S : St W w bs rs) (i : Nat) (cs' : List Value) {g : Nat} {cs : List Value} (hi : bs[i]? = some (g, cs)) (hl : cs'.length = cs.length) (hg : W.heap.size ≤ g)
    (hd : ∀ x ∈ bs.eraseIdx i, x.1 ≠ g) (bs' : List (Nat × List Value)) (hbs : bs.set i (g, cs') = bs') : St W (w.setCells g 0 cs') bs' rs := by
  subst hbs
  refine ⟨below_setCells hg cs' 0 w S.b, fun k x hx => ?_, S.rd⟩
  by_cases hk : i = k
  · subst hk
    rw [List.getElem?_set_self (by have := (List.getElem?_eq_some_iff.1 hi).1; exact this)] at hx
    injection hx with hx
    subst hx
    exact (S.bx i _ hi).setAll cs' hl
  · rw [List.getElem?_set_ne hk] at hx
    exact (S.bx k x hx).farAll g 0 cs' (fun e => hd x (List.mem_eraseIdx_iff_getElem?.2 ⟨k, fun e' => hk e'.symm, hx⟩) e.symm)

end Go.Proofs.Ytnfldccaeibcpaa

namespace Go.Proofs.Ytnfldccaeibcpaa
set_option linter.unusedVariables false
open Go.RowKit Go.Maps Go.Sort

theorem laT : ElemT Try.prog 24 45 (.agg #[.int .i64 0, .int .i64 0, .int .i64 0, .bool false, .slice none 0 0, .slice none 0 0]) 6 80 := ⟨Try.underlying24, by kernel_rfl, rfl, by omega⟩
theorem lxL_one (s : Lx) : ∀ u ∈ lxL s, u.oneCell' = true := by
  intro u hu
  simp only [lxL, List.mem_cons, List.not_mem_nil, or_false] at hu
  rcases hu with e | e | e | e | e | e <;> rw [e] <;> rfl
theorem lxV_append (a b : List Lx) : lxV (a ++ b) = lxV a ++ lxV b := by
  induction a with
  | nil => rfl
  | cons r l ih => simp only [List.cons_append, lxV, ih, List.append_assoc]
theorem Box.belowB {w w' : World} {g B : Nat} {cs : List Value} (h : Box w g cs) (hb : Below B w w') (hg : g < B) : Box w' g cs := fun i u hu => by
  have hk := hb.block g hg
  have := h i u hu
  exact ⟨(World.cell?_of_block (a := ⟨g, i, none⟩) hk).trans this.1, (World.frozen?_of_block (a := ⟨g, i, none⟩) hk).trans this.2⟩
theorem St.belowB {W w w' : World} {bs : List (Nat × List Value)} {rs : List (Option Addr × List Value)} {B : Nat} (S : St W w bs rs) (hb : Below B w w') (hB : W.heap.size ≤ B) (hd : ∀ x ∈ bs, x.1 < B) : St W w' bs rs :=
  ⟨S.b.trans (hb.mono hB), fun i x hx => (S.bx i x hx).belowB hb (hd x (List.mem_of_getElem? hx)), S.rd⟩
def allK (R : Nat → Rs) (k : Nat) : List Lx := ((List.range k).filter fun i => (R i).is).map fun i => (R i).x
abbrev allR (R : Nat → Rs) : List Lx := allK R 64
theorem allK_t {R : Nat → Rs} {k : Nat} (h : (R k).is = true) : allK R (k + 1) = allK R k ++ [(R k).x] := by simp [allK, List.range_succ, List.filter_append, h]
theorem allK_f {R : Nat → Rs} {k : Nat} (h : (R k).is = false) : allK R (k + 1) = allK R k := by simp [allK, List.range_succ, List.filter_append, h]
theorem allK_len (R : Nat → Rs) (k : Nat) : (allK R k).length ≤ k := by
  unfold allK
  rw [List.length_map]
  refine Nat.le_trans (List.length_filter_le _ _) ?_
  simp

set_option maxRecDepth 100000 in
set_option maxHeartbeats 3200000 in
theorem rall_any (w : World) (R : Nat → Rs) : Calls Try.prog 25 #[.agg (rdC R).toArray] w fun e w' => ∃ A c, e = .returned (.slice A (allR R).length c) ∧ w'.ownsRow w.heap.size 45 6 (.slice A (allR R).length c) (allR R).length (lxV (allR R)) ∧ Below w.heap.size w w' := by
  have S := (St.start w).new' (rdC R).toArray 86 w.heap.size (rdC R) rfl (by simp)
  have hsz : w.heap.size + 1 ≤ (w.alloc (.cells (rdC R).toArray 86)).heap.size := by simp
  go_enter Try.func25, Try.ntmps25
  go_upto_region 2 with fail
  generalize World.alloc w _ = w1 at *
  have hown : Hid (w1.ownsRow (w.heap.size + 1) 45 6 (.slice none 0 0) (allK R 0).length (lxV (allK R 0))) := World.ownsRow_nil _ _ _ _
  go_wp2_with fail
  go_loopw [3, 4] (fun v3 v4 wr => ∃ (k : Nat) (A : Option Addr) (c : Nat), v4 = .int .i64 k ∧ v3 = .slice A (allK R k).length c ∧ k ≤ 64 ∧ w.heap.size + 1 ≤ wr.heap.size ∧ Hid (wr.ownsRow (w.heap.size + 1) 45 6 (.slice A (allK R k).length c) (allK R k).length (lxV (allK R k))) ∧ St w wr [(w.heap.size, rdC R)] []) (fun _ v4 _ => 64 - (intOf v4).toNat)
  case atStart => exact ⟨0, none, 0, rfl, rfl, by omega, hsz, hown, S⟩
  case round =>
    clear S hown hsz
    obtain ⟨k, A, c, rfl, rfl, hk, hsz, hown, S⟩ := hrel
    by_cases hkn : k < 64
    · have c0 := S.c 0 k rfl (rdC_is R hkn)
      have hlen := allK_len R k
      obtain ⟨is, his⟩ : ∃ z, (R k).is = z := ⟨_, rfl⟩
      rw [his] at c0
      cases is with
      | false =>
        rw [← allK_f his] at hown ⊢
        clear hlen his
        go_wp2_with fail
        go_round
        case rel => exact ⟨k + 1, A, c, by go_num, rfl, by omega, hsz, hown, S⟩
        case measure => simp [intOf]; omega
      | true =>
        have hsucc := allK_t his
        obtain ⟨s, hs⟩ : ∃ z, (R k).x = z := ⟨_, rfl⟩
        have hat := fun j hj => rdC_at R hkn (j := j) hj
        have x0 := S.c 0 (64 + k * 7 + 0) rfl ((hat 0 (by omega)).trans rfl)
        have x1 := S.c 0 (64 + k * 7 + 1) rfl ((hat 1 (by omega)).trans rfl)
        have x2 := S.c 0 (64 + k * 7 + 2) rfl ((hat 2 (by omega)).trans rfl)
        have x3 := S.c 0 (64 + k * 7 + 3) rfl ((hat 3 (by omega)).trans rfl)
        have x4 := S.c 0 (64 + k * 7 + 4) rfl ((hat 4 (by omega)).trans rfl)
        have x5 := S.c 0 (64 + k * 7 + 5) rfl ((hat 5 (by omega)).trans rfl)
        simp only [Nat.add_zero] at x0
        rw [hs] at x0 x1 x2 x3 x4 x5 hsucc
        have hown2 := own_below hown.out (below_new' wr (.cells #[.int .i64 s.y.o, .int .i64 s.y.s, .int .i64 s.y.a, .bool s.y.ov, .slice s.A s.y.adj.length s.c, .slice s.B s.y.pre.length s.d] 45))
        have rd0 := Rd.lit wr #[.int .i64 s.y.o, .int .i64 s.y.s, .int .i64 s.y.a, .bool s.y.ov, .slice s.A s.y.adj.length s.c, .slice s.B s.y.pre.length s.d] 45
        have S2 := S.alloc (.cells #[.int .i64 s.y.o, .int .i64 s.y.s, .int .i64 s.y.a, .bool s.y.ov, .slice s.A s.y.adj.length s.c, .slice s.B s.y.pre.length s.d] 45)
        have hsz2 : w.heap.size + 1 ≤ (wr.alloc (.cells #[.int .i64 s.y.o, .int .i64 s.y.s, .int .i64 s.y.a, .bool s.y.ov, .slice s.A s.y.adj.length s.c, .slice s.B s.y.pre.length s.d] 45)).heap.size := by simp; omega
        have hl1 : (allK R (k + 1)).length = (allK R k).length + 1 := by rw [hsucc]; simp
        have hl2 : lxV (allK R (k + 1)) = lxV (allK R k) ++ lxL s := by rw [hsucc, lxV_append]; simp [lxV]
        generalize lxV (allK R k) = L at *
        generalize (allK R k).length = n at *
        replace hl1 := Lib.hid hl1
        replace hl2 := Lib.hid hl2
        clear hat hs hsucc hown S his
        go_wp2_with (at_builtin; refine wpList_appB rfl laT (.tmp 13) (.tmp 19) rfl (w.heap.size + 1) rfl hown2 (m := 1) rfl (by simp) rd0 (lxL_one s) (by simp only [maxLen]; omega) (by omega) hsz2 (n + 1) _ rfl rfl ?_; intro v3 w7 hown7 hbel7 hg7 hv7)
        clear x0 x1 x2 x3 x4 x5 c0 rd0 hown2
        replace S2 := S2.belowB hbel7 (by omega) (by simp)
        have hsz7 := Nat.le_trans hsz2 hbel7.size
        rw [← hl1.out, show L ++ [_, _, _, _, _, _] = L ++ lxL s from rfl, ← hl2.out] at hown7
        obtain ⟨A7, c7, rfl, -⟩ := own_rd hown7
        replace hown7 := Lib.hid hown7
        clear hbel7 hg7 hv7 hsz2
        go_wp2_with fail
        go_round
        case rel => exact ⟨k + 1, A7, c7, by go_num, rfl, by omega, hsz7, hown7, S2⟩
        case measure => simp [intOf]; omega
    · obtain rfl : k = 64 := by omega
      go_wp2_with fail
      go_ret
      exact ⟨A, c, rfl, own_mono hown.out (by omega), S.b⟩

end Go.Proofs.Ytnfldccaeibcpaa
