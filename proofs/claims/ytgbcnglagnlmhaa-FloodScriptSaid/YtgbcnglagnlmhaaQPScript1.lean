/-
  The texts Rf1, Rf2, Rf3, RfH, Rf5, RfK, Rf4, Rf7, Rf9, Rf8, Rf6, one after the other.
-/
import Derived.Test.YtgbcnglagnlmhaaQPScript0
import Derived.Test.YtgbcnglagnlmhaaNewR
import Derived.Deep.RegionLaw
import Derived.Test.YtgbcnglagnlmhaaSameR
namespace Go.Proofs.Ytgbcnglagnlmhaa
set_option linter.unusedVariables false
open Go.RowKit Go.Maps Go.Sort

/-- An item as it lies in memory. -/
structure It where
  q : Int
  x : Lx
  t : Int
def itL (s : It) : List Value := [.int .i64 s.q, .int .i64 s.x.y.o, .int .i64 s.x.y.s, .int .i64 s.x.y.a, .bool s.x.y.ov, .slice s.x.A s.x.y.adj.length s.x.c, .slice s.x.B s.x.y.pre.length s.x.d, .int .i64 s.t]
def itV : List It → List Value
  | [] => []
  | s :: l => itL s ++ itV l
theorem itV_len (l : List It) : (itV l).length = l.length * 8 := by
  induction l with
  | nil => rfl
  | cons r l ih => simp only [itV, itL, List.length_append, List.length_cons, List.length_nil, ih]; omega
theorem itV_append (a b : List It) : itV (a ++ b) = itV a ++ itV b := by
  induction a with
  | nil => rfl
  | cons r l ih => simp only [List.cons_append, itV, ih, List.append_assoc]
theorem itL_one (s : It) : ∀ u ∈ itL s, u.oneCell' = true := by
  intro u hu
  simp only [itL, List.mem_cons, List.not_mem_nil, or_false] at hu
  rcases hu with rfl | rfl | rfl | rfl | rfl | rfl | rfl | rfl <;> rfl
theorem itV_get (l : List It) : ∀ (k : Nat) (hk : k < l.length) (j : Nat) (hj : j < 8), (itV l)[8 * k + j]? = (itL l[k])[j]? := by
  induction l with
  | nil => intro k hk; simp at hk
  | cons r l ih =>
    intro k hk j hj
    have h8 : (itL r).length = 8 := rfl
    cases k with
    | zero => simp only [itV, List.getElem_cons_zero]; rw [List.getElem?_append_left (by omega)]; simp
    | succ k =>
      simp only [itV, List.getElem_cons_succ]
      rw [List.getElem?_append_right (by omega), h8, show 8 * (k + 1) + j - 8 = 8 * k + j by omega]
      exact ih k (by simpa using hk) j hj
theorem it_form {w : World} {A : Option Addr} {l : List It} (h : Rd w A (itV l)) (hn : 0 < l.length) : ∃ b off, A = some ⟨b, off, none⟩ := by
  obtain ⟨b, off, e, _⟩ := rd_at h (by rw [itV_len]; omega)
  exact ⟨b, off, e⟩
/-- The cells of an item. -/
theorem it_cells {w : World} {b off : Nat} {l : List It} (h : Rd w (some ⟨b, off, none⟩) (itV l)) (k : Nat) (hk : k < l.length) (s : It) (hs : l[k] = s) :
    w.cell? ⟨b, off + k * 8, none⟩ = some (.int .i64 s.q) ∧ w.cell? ⟨b, off + k * 8 + 1, none⟩ = some (.int .i64 s.x.y.o) ∧ w.cell? ⟨b, off + k * 8 + 2, none⟩ = some (.int .i64 s.x.y.s) ∧ w.cell? ⟨b, off + k * 8 + 3, none⟩ = some (.int .i64 s.x.y.a) ∧
    w.cell? ⟨b, off + k * 8 + 4, none⟩ = some (.bool s.x.y.ov) ∧ w.cell? ⟨b, off + k * 8 + 5, none⟩ = some (.slice s.x.A s.x.y.adj.length s.x.c) ∧ w.cell? ⟨b, off + k * 8 + 6, none⟩ = some (.slice s.x.B s.x.y.pre.length s.x.d) ∧ w.cell? ⟨b, off + k * 8 + 7, none⟩ = some (.int .i64 s.t) := by
  subst hs
  obtain ⟨b', off', e, hc⟩ := rd_at h (by rw [itV_len]; omega)
  injection e with e
  injection e with e1 e2 e3
  subst e1 e2
  have H : ∀ j u, j < 8 → (itL l[k])[j]? = some u → w.cell? ⟨b, off + k * 8 + j, none⟩ = some u := fun j u hj hu => by
    rw [Nat.add_assoc]
    exact hc _ _ (by rw [Nat.mul_comm k 8, itV_get l k hk j hj]; exact hu)
  have x0 := H 0 _ (by omega) rfl
  simp only [Nat.add_zero] at x0
  exact ⟨x0, H 1 _ (by omega) rfl, H 2 _ (by omega) rfl, H 3 _ (by omega) rfl, H 4 _ (by omega) rfl, H 5 _ (by omega) rfl, H 6 _ (by omega) rfl, H 7 _ (by omega) rfl⟩
theorem itT : ElemT Try.prog 42 51 (.agg #[.int .i64 0, .int .i64 0, .int .i64 0, .int .i64 0, .bool false, .slice none 0 0, .slice none 0 0, .int .i64 0]) 8 96 := ⟨Try.underlying42, by kernel_rfl, rfl, by omega⟩

/-! ### without -/
def woB (q o : Int) (s : It) : Bool := (s.q != q) || (decide (0 ≤ o) && (s.x.y.o != o))
def wo (q o : Int) (l : List It) : List It := l.filter (woB q o)
theorem wo_snoc (q o : Int) (l : List It) (k : Nat) (hk : k < l.length) : wo q o (l.take (k + 1)) = wo q o (l.take k) ++ (if woB q o l[k] = true then [l[k]] else []) := by
  unfold wo
  rw [List.take_succ_eq_append_getElem hk, List.filter_append]
  congr 1
  by_cases h : woB q o l[k] = true
  · rw [if_pos h, List.filter_cons_of_pos h]; rfl
  · rw [if_neg h, List.filter_cons_of_neg h]; rfl
theorem wo_len (q o : Int) (l : List It) (k : Nat) : (wo q o (l.take k)).length ≤ k := by
  unfold wo
  exact Nat.le_trans (List.length_filter_le _ _) (by simp; omega)
def ItsPost (w : World) (l : List It) (e : Ending) (w' : World) : Prop :=
  ∃ A c, e = .returned (.slice A l.length c) ∧ w'.ownsRow w.heap.size 51 8 (.slice A l.length c) l.length (itV l) ∧ Below w.heap.size w w'
/-- On the way: the list that is read, the one that is made. -/
structure ItAt (w wr : World) (B : Option Addr) (l : List It) (A : Option Addr) (c : Nat) (out : List It) : Prop where
  rd0 : Rd w B (itV l)
  own : wr.ownsRow w.heap.size 51 8 (.slice A out.length c) out.length (itV out)
  bel : Below w.heap.size w wr
theorem ItAt.below {w wr w' : World} {B : Option Addr} {l : List It} {A : Option Addr} {c : Nat} {out : List It} (h : ItAt w wr B l A c out) (hb : Below wr.heap.size wr w') : ItAt w w' B l A c out :=
  ⟨h.rd0, own_below h.own hb, h.bel.trans (hb.mono h.bel.size)⟩
theorem ItAt.rd {w wr : World} {B : Option Addr} {l : List It} {A : Option Addr} {c : Nat} {out : List It} (h : ItAt w wr B l A c out) : Rd wr B (itV l) := h.rd0.below h.bel
theorem ItAt.app {w wr w' : World} {B : Option Addr} {l : List It} {A : Option Addr} {c : Nat} {out : List It} (h : ItAt w wr B l A c out) {s : It} {A' : Option Addr} {c' : Nat}
    (ho : w'.ownsRow w.heap.size 51 8 (.slice A' (out.length + 1) c') (out.length + 1) (itV out ++ itL s)) (hb : Below w.heap.size wr w') : ItAt w w' B l A' c' (out ++ [s]) :=
  ⟨h.rd0, by rw [itV_append]; simpa [itV] using ho, h.bel.trans hb⟩

set_option maxRecDepth 100000 in
set_option maxHeartbeats 3200000 in
theorem rwithout_any (w : World) (B : Option Addr) (m d : Nat) (l : List It) (hB : Rd w B (itV l)) (hm : l.length = m) (hmm : m ≤ 1000000) (q o : Int) :
    Calls Try.prog 48 #[.slice B m d, .int .i64 q, .int .i64 o] w (ItsPost w (wo q o l)) := by
  have hT : Hid (ItAt w w B l none 0 (wo q o (l.take 0))) := ⟨hB, World.ownsRow_nil _ _ _ _, Below.refl _ _⟩
  have hfin : Hid (∀ w' A c, ItAt w w' B l A c (wo q o (l.take m)) → ItsPost w (wo q o l) (.returned (.slice A (wo q o (l.take m)).length c)) w') := fun w' A c h => by
    rw [← hm, List.take_length] at *
    exact ⟨A, c, rfl, h.own, h.bel⟩
  clear hB
  replace hm := Lib.hid hm
  go_enter Try.func48, Try.ntmps48
  go_wp2_with fail
  go_loopw [7, 8] (fun v7 v8 wr => ∃ (k : Nat) (A : Option Addr) (c : Nat), v8 = .int .i64 k ∧ v7 = .slice A (wo q o (l.take k)).length c ∧ k ≤ m ∧ Hid (ItAt w wr B l A c (wo q o (l.take k)))) (fun _ v8 _ => m - (intOf v8).toNat)
  case atStart => exact ⟨0, none, 0, rfl, rfl, by omega, hT⟩
  case round =>
    clear hT
    obtain ⟨k, A, c, rfl, rfl, hk, hT⟩ := hrel
    by_cases hkm : k < m
    · have hkl : k < l.length := by rw [hm.out]; exact hkm
      have hwl := wo_len q o l k
      have hnx := wo_snoc q o l k hkl
      obtain ⟨ba, off, rfl⟩ := it_form hT.out.rd (by omega)
      obtain ⟨s, hs⟩ : ∃ s, l[k] = s := ⟨_, rfl⟩
      rw [hs] at hnx
      have hcell := it_cells hT.out.rd k hkl s hs
      have hown := hT.out.own
      generalize hout : wo q o (l.take k) = out at *
      have hsz := hT.out.bel.size
      obtain ⟨x0, x1, x2, x3, x4, x5, x6, x7⟩ := hcell
      have hwo : woB q o s = ((s.q != q) || (decide (0 ≤ o) && (s.x.y.o != o))) := rfl
      clear hs hout
      by_cases hb : woB q o s = true
      · rw [if_pos hb] at hnx
        have hb3 := below_new' wr (.cells #[.int .i64 s.q, .int .i64 s.x.y.o, .int .i64 s.x.y.s, .int .i64 s.x.y.a, .bool s.x.y.ov, .slice s.x.A s.x.y.adj.length s.x.c, .slice s.x.B s.x.y.pre.length s.x.d, .int .i64 s.t] 51)
        have rd0 := Rd.lit wr #[.int .i64 s.q, .int .i64 s.x.y.o, .int .i64 s.x.y.s, .int .i64 s.x.y.a, .bool s.x.y.ov, .slice s.x.A s.x.y.adj.length s.x.c, .slice s.x.B s.x.y.pre.length s.x.d, .int .i64 s.t] 51
        have T3 := hT.out.below hb3
        have o3 := T3.own
        have hszz := T3.bel.size
        clear hT hown hb3
        replace T3 := Lib.hid T3
        replace hnx := Lib.hid hnx
        have hone := itL_one s
        have hcase : (s.q != q) = true ∨ ((s.q != q) = false ∧ decide (0 ≤ o) = true ∧ (s.x.y.o != o) = true) := by
          rw [hwo] at hb
          cases h1 : (s.q != q) with
          | true => exact .inl rfl
          | false => rw [h1] at hb; simp only [Bool.false_or, Bool.and_eq_true] at hb; exact .inr ⟨rfl, hb⟩
        clear hwo hb
        have hA1 : out.length + 1 ≤ maxLen := by simp only [maxLen]; omega
        have hA2 : (out.length + 1) * 96 ≤ 140737488355328 := by omega
        rcases hcase with hqb | ⟨hqb, ho0, hob⟩
        all_goals
          go_wp2_with (at_builtin; refine wpList_appB rfl itT (.tmp 36) (.tmp 41) rfl w.heap.size rfl o3 (m := 1) rfl (by simp) rd0 hone hA1 hA2 hszz (out.length + 1) _ rfl rfl ?_; intro v6 w6 o6 hbel6 hg6 hv6)
          obtain ⟨A7, c7, rfl, -⟩ := own_rd o6
          have T4 : Hid (ItAt w w6 (some ⟨ba, off, none⟩) l A7 c7 (out ++ [s])) := T3.out.app o6 hbel6
          have hlen : (wo q o (l.take (k + 1))).length = out.length + 1 := by rw [hnx.out]; simp
          clear o6 hbel6 hg6 hv6 o3 rd0 T3
          go_wp2_with fail
          go_round
          case rel => exact ⟨k + 1, A7, c7, by go_num, by rw [hlen], by omega, by rw [hnx.out]; exact T4⟩
          case measure => simp [intOf]; omega
      · rw [if_neg hb, List.append_nil] at hnx
        have hcase : (s.q != q) = false ∧ ((decide (0 ≤ o) = true ∧ (s.x.y.o != o) = false) ∨ decide (0 ≤ o) = false) := by
          rw [hwo] at hb
          cases h1 : (s.q != q) with
          | true => rw [h1] at hb; simp at hb
          | false =>
            rw [h1] at hb
            cases h2 : decide (0 ≤ o) with
            | true => rw [h2] at hb; simp only [Bool.false_or, Bool.true_and, Bool.not_eq_true] at hb; exact ⟨rfl, .inl ⟨rfl, hb⟩⟩
            | false => exact ⟨rfl, .inr rfl⟩
        clear hwo hb hown
        obtain ⟨hqb, hcase⟩ := hcase
        rcases hcase with ⟨ho0, hob⟩ | ho0
        all_goals
          go_wp2_with fail
          go_round
          case rel => exact ⟨k + 1, A, c, by go_num, by rw [hnx], by omega, by rw [hnx]; exact hT⟩
          case measure => simp [intOf]; omega
    · obtain rfl : k = m := by omega
      have hf := hfin.out _ _ _ hT.out
      replace hf := Lib.hid hf
      go_wp2_with fail
      go_ret
      exact hf.out

end Go.Proofs.Ytgbcnglagnlmhaa

namespace Go.Proofs.Ytgbcnglagnlmhaa
set_option linter.unusedVariables false
open Go.RowKit Go.Maps Go.Sort

/-! ### Insertion in order, plain -/
def ins {α : Type} (p : α → Bool) : List α → α → List α
  | [], x => [x]
  | s :: l, x => if p s = true then x :: s :: l else s :: ins p l x
theorem ins_end {α : Type} {p : α → Bool} {l : List α} (x : α) (h : l.any p = false) : ins p l x = l ++ [x] := by
  induction l with
  | nil => rfl
  | cons s l ih =>
    simp only [List.any_cons, Bool.or_eq_false_iff] at h
    simp [ins, h.1, ih h.2]
theorem ins_put {α : Type} {p : α → Bool} {l : List α} (x s : α) (h : l.any p = true) : ins p (l ++ [s]) x = ins p l x ++ [s] := by
  induction l with
  | nil => simp at h
  | cons t l ih =>
    by_cases ht : p t = true
    · simp [ins, ht]
    · simp only [List.any_cons, ht, Bool.false_or] at h
      simp [ins, ht, ih h]
theorem ins_new {α : Type} {p : α → Bool} {l : List α} (x s : α) (h : l.any p = false) (hs : p s = true) : ins p (l ++ [s]) x = l ++ [x, s] := by
  induction l with
  | nil => simp [ins, hs]
  | cons t l ih =>
    simp only [List.any_cons, Bool.or_eq_false_iff] at h
    simp [ins, h.1, ih h.2]
theorem ins_len {α : Type} (p : α → Bool) (l : List α) (x : α) : (ins p l x).length = l.length + 1 := by
  induction l with
  | nil => rfl
  | cons t l ih =>
    unfold ins
    split
    · rfl
    · simp [ih]
/-- What the loop has made of the first k elements. -/
def insK {α : Type} (p : α → Bool) (l : List α) (x : α) (k : Nat) : List α := if (l.take k).any p = true then ins p (l.take k) x else l.take k
theorem insK_len {α : Type} (p : α → Bool) (l : List α) (x : α) (k : Nat) : (insK p l x k).length ≤ k + 1 := by
  unfold insK
  split
  · rw [ins_len]; simp; omega
  · simp; omega
theorem any_snoc {α : Type} (p : α → Bool) (l : List α) (k : Nat) (hk : k < l.length) : (l.take (k + 1)).any p = ((l.take k).any p || p l[k]) := by
  rw [List.take_succ_eq_append_getElem hk, List.any_append]; simp
theorem insK_new {α : Type} {p : α → Bool} {l : List α} (x : α) {k : Nat} (hk : k < l.length) (h : (l.take k).any p = false) (hs : p l[k] = true) : insK p l x (k + 1) = insK p l x k ++ [x] ++ [l[k]] := by
  unfold insK
  rw [any_snoc p l k hk, h, hs, if_pos (by rfl), if_neg (by simp), List.take_succ_eq_append_getElem hk, ins_new x _ h hs]
  simp
theorem insK_old {α : Type} {p : α → Bool} {l : List α} (x : α) {k : Nat} (hk : k < l.length) (h : (l.take k).any p = true ∨ p l[k] = false) : insK p l x (k + 1) = insK p l x k ++ [l[k]] := by
  unfold insK
  rw [any_snoc p l k hk]
  by_cases h1 : (l.take k).any p = true
  · rw [h1, if_pos (by rfl), if_pos (by rfl), List.take_succ_eq_append_getElem hk, ins_put x _ h1]
  · have h2 : p l[k] = false := h.resolve_left h1
    rw [h2]
    simp only [Bool.not_eq_true] at h1
    rw [h1, if_neg (by simp), if_neg (by simp), List.take_succ_eq_append_getElem hk]
theorem insK_all {α : Type} {p : α → Bool} {l : List α} (x : α) : ins p l x = if l.any p = true then insK p l x l.length else insK p l x l.length ++ [x] := by
  unfold insK
  rw [List.take_length]
  by_cases h : l.any p = true
  · rw [if_pos h, if_pos h]
  · rw [if_neg h, if_neg h, ins_end x (by simpa using h)]

def wjB (x s : It) : Bool := decide (x.q < s.q) || ((s.q == x.q) && decide (x.x.y.o < s.x.y.o))
def wi (l : List It) (x : It) : List It := ins (wjB x) l x

theorem big96 {n : Nat} (h : n ≤ 1000009) : n * 96 ≤ 140737488355328 := by omega
set_option maxRecDepth 100000 in
set_option maxHeartbeats 6400000 in
theorem rwith_any (w : World) (B : Option Addr) (m d : Nat) (l : List It) (hB : Rd w B (itV l)) (hm : l.length = m) (hmm : m ≤ 1000000) (x : It) :
    Calls Try.prog 52 #[.slice B m d, .agg #[.int .i64 x.q, .int .i64 x.x.y.o, .int .i64 x.x.y.s, .int .i64 x.x.y.a, .bool x.x.y.ov, .slice x.x.A x.x.y.adj.length x.x.c, .slice x.x.B x.x.y.pre.length x.x.d, .int .i64 x.t]] w (ItsPost w (wi l x)) := by
  have hb1 := below_new' w (.cells #[.int .i64 x.q, .int .i64 x.x.y.o, .int .i64 x.x.y.s, .int .i64 x.x.y.a, .bool x.x.y.ov, .slice x.x.A x.x.y.adj.length x.x.c, .slice x.x.B x.x.y.pre.length x.x.d, .int .i64 x.t] 51)
  have hbx := Box.new' w #[.int .i64 x.q, .int .i64 x.x.y.o, .int .i64 x.x.y.s, .int .i64 x.x.y.a, .bool x.x.y.ov, .slice x.x.A x.x.y.adj.length x.x.c, .slice x.x.B x.x.y.pre.length x.x.d, .int .i64 x.t] 51 w.heap.size _ rfl rfl
  have hB1 := hB.below hb1
  have hs1 : w.heap.size ≤ (w.alloc (.cells #[.int .i64 x.q, .int .i64 x.x.y.o, .int .i64 x.x.y.s, .int .i64 x.x.y.a, .bool x.x.y.ov, .slice x.x.A x.x.y.adj.length x.x.c, .slice x.x.B x.x.y.pre.length x.x.d, .int .i64 x.t] 51)).heap.size := hb1.size
  have hany := @insK_all It (wjB x) l x
  rw [hm] at hany
  clear hB
  replace hm := Lib.hid hm
  replace hany := Lib.hid hany
  go_enter Try.func52, Try.ntmps52
  go_upto_region 1 with fail
  generalize hw1 : World.alloc w _ = w1 at *
  clear hw1
  have hT : Hid (ItAt w1 w1 B l none 0 (insK (wjB x) l x 0)) := ⟨hB1, World.ownsRow_nil _ _ _ _, Below.refl _ _⟩
  replace hbx := Lib.hid hbx
  clear hB1
  go_wp2_with fail
  go_loopw [5, 6, 7] (fun v5 v6 v7 wr => ∃ (k : Nat) (A : Option Addr) (c : Nat), v7 = .int .i64 k ∧ v6 = .bool ((l.take k).any (wjB x)) ∧ v5 = .slice A (insK (wjB x) l x k).length c ∧ k ≤ m ∧ Hid (ItAt w1 wr B l A c (insK (wjB x) l x k))) (fun _ _ v7 _ => m - (intOf v7).toNat)
  case atStart => exact ⟨0, none, 0, rfl, rfl, rfl, by omega, hT⟩
  case round =>
    clear hT
    obtain ⟨k, A, c, rfl, rfl, rfl, hk, hT⟩ := hrel
    by_cases hkm : k < m
    · have hkl : k < l.length := by rw [hm.out]; exact hkm
      have hwl := insK_len (wjB x) l x k
      have hA1 : (insK (wjB x) l x k).length + 1 ≤ maxLen := by simp only [maxLen]; omega
      have hA2 : ((insK (wjB x) l x k).length + 1) * 96 ≤ 140737488355328 := by omega
      have hB1 : (insK (wjB x) l x k).length + 1 + 1 ≤ maxLen := by simp only [maxLen]; omega
      have hB2 : ((insK (wjB x) l x k).length + 1 + 1) * 96 ≤ 140737488355328 := big96 (by omega)
      have hnx1 := @insK_new It (wjB x) l x k hkl
      have hnx2 := @insK_old It (wjB x) l x k hkl
      have hany1 := any_snoc (wjB x) l k hkl
      obtain ⟨ba, off, rfl⟩ := it_form hT.out.rd (by omega)
      obtain ⟨s, hs⟩ : ∃ s, l[k] = s := ⟨_, rfl⟩
      rw [hs] at hnx1 hnx2 hany1
      have hcell := it_cells hT.out.rd k hkl s hs
      have hcs : Hid (∀ W, Rd W (some ⟨ba, off, none⟩) (itV l) → _) := fun W h => it_cells h k hkl s hs
      have hbxr := hbx.out.later (hT.out.bel)
      generalize (l.take k).any (wjB x) = put at *
      generalize insK (wjB x) l x k = out at *
      obtain ⟨x0, x1, x2, x3, x4, x5, x6, x7⟩ := hcell
      have a0 := hbxr.c 0 rfl
      have a1 := hbxr.c 1 rfl
      have a2 := hbxr.c 2 rfl
      have a3 := hbxr.c 3 rfl
      have a4 := hbxr.c 4 rfl
      have a5 := hbxr.c 5 rfl
      have a6 := hbxr.c 6 rfl
      have a7 := hbxr.c 7 rfl
      clear hbxr hs
      have hwi : wjB x s = (decide (x.q < s.q) || ((s.q == x.q) && decide (x.x.y.o < s.x.y.o))) := rfl
      by_cases hc : put = false ∧ wjB x s = true
      · obtain ⟨rfl, hc⟩ := hc
        have hnx := hnx1 rfl hc
        rw [hc] at hany1
        have hcase : decide (x.q < s.q) = true ∨ (decide (x.q < s.q) = false ∧ (s.q == x.q) = true ∧ decide (x.x.y.o < s.x.y.o) = true) := by
          rw [hwi] at hc
          cases h1 : decide (x.q < s.q) with
          | true => exact .inl rfl
          | false => rw [h1] at hc; simp only [Bool.false_or, Bool.and_eq_true] at hc; exact .inr ⟨rfl, hc⟩
        clear hnx1 hnx2 hwi hc
        have hb3 := below_new' wr (.cells #[.int .i64 x.q, .int .i64 x.x.y.o, .int .i64 x.x.y.s, .int .i64 x.x.y.a, .bool x.x.y.ov, .slice x.x.A x.x.y.adj.length x.x.c, .slice x.x.B x.x.y.pre.length x.x.d, .int .i64 x.t] 51)
        replace hnx := Lib.hid hnx
        replace hany1 := Lib.hid hany1
        rcases hcase with hqb | ⟨hqb, heq, hob⟩
        all_goals
          go_wp2_with fail
          go_quiet (fail)
          have hbq : Below wr.heap.size wr (wr.drewN nq) := below_drewN (Below.refl _ _) nq
          replace hT := Lib.hid (hT.out.below hbq)
          have hbxr := hbx.out.later hT.out.bel
          clear hbq x0 x1 x2 x3 x4 x5 x6 x7
          clear a0 a1 a2 a3 a4 a5 a6 a7
          generalize wr.drewN nq = w2 at *
          have a0 := hbxr.c 0 rfl
          have a1 := hbxr.c 1 rfl
          have a2 := hbxr.c 2 rfl
          have a3 := hbxr.c 3 rfl
          have a4 := hbxr.c 4 rfl
          have a5 := hbxr.c 5 rfl
          have a6 := hbxr.c 6 rfl
          have a7 := hbxr.c 7 rfl
          have hb3 := below_new' w2 (.cells #[.int .i64 x.q, .int .i64 x.x.y.o, .int .i64 x.x.y.s, .int .i64 x.x.y.a, .bool x.x.y.ov, .slice x.x.A x.x.y.adj.length x.x.c, .slice x.x.B x.x.y.pre.length x.x.d, .int .i64 x.t] 51)
          have rd0 := Rd.lit w2 #[.int .i64 x.q, .int .i64 x.x.y.o, .int .i64 x.x.y.s, .int .i64 x.x.y.a, .bool x.x.y.ov, .slice x.x.A x.x.y.adj.length x.x.c, .slice x.x.B x.x.y.pre.length x.x.d, .int .i64 x.t] 51
          have T3 := hT.out.below hb3
          have o3 := T3.own
          have hszz := T3.bel.size
          have hone := itL_one x
          clear hb3 hbxr
          replace T3 := Lib.hid T3
          go_upto_region 8 with (at_builtin; refine wpList_appB rfl itT (.tmp 48) (.tmp 50) rfl w1.heap.size rfl o3 (m := 1) rfl (by simp) rd0 hone hA1 hA2 hszz (out.length + 1) _ rfl rfl ?_; intro v6 w6 o6 hbel6 hg6 hv6; obtain ⟨A6, c6, rfl, -⟩ := own_rd o6)
          have hlen6 : (out ++ [x]).length = out.length + 1 := by simp
          have T4 : Hid (ItAt w1 w6 (some ⟨ba, off, none⟩) l A6 c6 (out ++ [x])) := T3.out.app o6 hbel6
          clear o6 hbel6 hg6 hv6 o3 rd0 T3 hone hszz hT
          clear a0 a1 a2 a3 a4 a5 a6 a7
          obtain ⟨x0, x1, x2, x3, x4, x5, x6, x7⟩ := hcs.out _ T4.out.rd
          have hb3 := below_new' w6 (.cells #[.int .i64 s.q, .int .i64 s.x.y.o, .int .i64 s.x.y.s, .int .i64 s.x.y.a, .bool s.x.y.ov, .slice s.x.A s.x.y.adj.length s.x.c, .slice s.x.B s.x.y.pre.length s.x.d, .int .i64 s.t] 51)
          have rd0 := Rd.lit w6 #[.int .i64 s.q, .int .i64 s.x.y.o, .int .i64 s.x.y.s, .int .i64 s.x.y.a, .bool s.x.y.ov, .slice s.x.A s.x.y.adj.length s.x.c, .slice s.x.B s.x.y.pre.length s.x.d, .int .i64 s.t] 51
          have T5 := T4.out.below hb3
          have o3 := T5.own
          rw [hlen6] at o3
          have hszz := T5.bel.size
          have hone := itL_one s
          clear hb3 T4
          replace T5 := Lib.hid T5
          replace hlen6 := Lib.hid hlen6
          go_wp2_with (at_builtin; refine wpList_appB rfl itT (.tmp 52) (.tmp 57) rfl w1.heap.size rfl o3 (m := 1) rfl (by simp) rd0 hone hB1 hB2 hszz (out.length + 1 + 1) _ rfl rfl ?_; intro v8 w8 o8 hbel8 hg8 hv8; obtain ⟨A8, c8, rfl, -⟩ := own_rd o8)
          have T6 : Hid (ItAt w1 w8 (some ⟨ba, off, none⟩) l A8 c8 (out ++ [x] ++ [s])) := T5.out.app (by rw [hlen6.out]; exact o8) hbel8
          have hlen : (insK (wjB x) l x (k + 1)).length = out.length + 1 + 1 := by rw [hnx.out]; simp
          clear o8 hbel8 hg8 hv8 o3 rd0 T5 hone hszz x0 x1 x2 x3 x4 x5 x6 x7
          go_wp2_with fail
          go_round
          case rel => exact ⟨k + 1, A8, c8, by go_num, by rw [hany1.out]; rfl, by rw [hlen], by omega, by rw [hnx.out]; exact T6.out⟩
          case measure => simp [intOf]; omega
      · have hor : put = true ∨ wjB x s = false := by
          cases put with
          | true => exact .inl rfl
          | false => exact .inr (by simpa using fun h => hc ⟨rfl, h⟩)
        have hnx := hnx2 hor
        have hany2 : (l.take (k + 1)).any (wjB x) = put := by
          rw [hany1]
          rcases hor with h | h <;> simp [h]
        have hcase : put = true ∨ (put = false ∧ decide (x.q < s.q) = false ∧ ((s.q == x.q) = false ∨ ((s.q == x.q) = true ∧ decide (x.x.y.o < s.x.y.o) = false))) := by
          cases put with
          | true => exact .inl rfl
          | false =>
            rcases hor with h | h
            · cases h
            · rw [hwi] at h
              cases h1 : decide (x.q < s.q) with
              | true => rw [h1] at h; simp at h
              | false =>
                rw [h1] at h
                cases h2 : (s.q == x.q) with
                | false => exact .inr ⟨rfl, rfl, .inl rfl⟩
                | true => rw [h2] at h; simp only [Bool.false_or, Bool.true_and] at h; exact .inr ⟨rfl, rfl, .inr ⟨rfl, h⟩⟩
        clear hnx1 hnx2 hwi hc hor hany1
        replace hnx := Lib.hid hnx
        replace hany2 := Lib.hid hany2
        rcases hcase with rfl | ⟨rfl, hqb, heq | ⟨heq, hob⟩⟩
        all_goals
          go_wp2_with fail
          go_quiet (fail)
          have hbq : Below wr.heap.size wr (wr.drewN nq) := below_drewN (Below.refl _ _) nq
          replace hT := Lib.hid (hT.out.below hbq)
          have hbxr := hbx.out.later hT.out.bel
          clear hbq x0 x1 x2 x3 x4 x5 x6 x7
          clear a0 a1 a2 a3 a4 a5 a6 a7
          generalize wr.drewN nq = w2 at *
          obtain ⟨x0, x1, x2, x3, x4, x5, x6, x7⟩ := hcs.out _ hT.out.rd
          skip
          have hb3 := below_new' w2 (.cells #[.int .i64 s.q, .int .i64 s.x.y.o, .int .i64 s.x.y.s, .int .i64 s.x.y.a, .bool s.x.y.ov, .slice s.x.A s.x.y.adj.length s.x.c, .slice s.x.B s.x.y.pre.length s.x.d, .int .i64 s.t] 51)
          have rd0 := Rd.lit w2 #[.int .i64 s.q, .int .i64 s.x.y.o, .int .i64 s.x.y.s, .int .i64 s.x.y.a, .bool s.x.y.ov, .slice s.x.A s.x.y.adj.length s.x.c, .slice s.x.B s.x.y.pre.length s.x.d, .int .i64 s.t] 51
          have T3 := hT.out.below hb3
          have o3 := T3.own
          have hszz := T3.bel.size
          have hone := itL_one s
          clear hb3
          replace T3 := Lib.hid T3
          go_wp2_with (at_builtin; refine wpList_appB rfl itT (.tmp 52) (.tmp 57) rfl w1.heap.size rfl o3 (m := 1) rfl (by simp) rd0 hone hA1 hA2 hszz (out.length + 1) _ rfl rfl ?_; intro v6 w6 o6 hbel6 hg6 hv6)
          obtain ⟨A6, c6, rfl, -⟩ := own_rd o6
          have T4 := T3.out.app o6 hbel6
          clear o6 hbel6 hg6 hv6 o3 rd0 T3 hone hszz
          have hlen : (insK (wjB x) l x (k + 1)).length = out.length + 1 := by rw [hnx.out]; simp
          replace T4 := Lib.hid T4
          clear x0 x1 x2 x3 x4 x5 x6 x7 hbxr
          go_wp2_with fail
          go_round
          case rel => exact ⟨k + 1, A6, c6, by go_num, by rw [hany2.out], by rw [hlen], by omega, by rw [hnx.out]; exact T4.out⟩
          case measure => simp [intOf]; omega
    · obtain rfl : k = m := by omega
      have hbxr := hbx.out.later hT.out.bel
      have hp := hany.out
      have hwl := insK_len (wjB x) l x k
      have hA1 : (insK (wjB x) l x k).length + 1 ≤ maxLen := by simp only [maxLen]; omega
      have hA2 : ((insK (wjB x) l x k).length + 1) * 96 ≤ 140737488355328 := big96 (by omega)
      have hall : (l.take k).any (wjB x) = l.any (wjB x) := by rw [← hm.out, List.take_length]
      rw [hall]
      generalize l.any (wjB x) = put at *
      generalize insK (wjB x) l x k = out at *
      cases put with
      | true =>
        rw [if_pos rfl] at hp
        have hf : Hid (ItsPost w (wi l x) (.returned (.slice A out.length c)) wr) := by
          show ItsPost _ _ _ _
          unfold wi
          rw [hp]
          exact ⟨A, c, rfl, own_mono hT.out.own hs1, hb1.trans (hT.out.bel.mono hs1)⟩
        clear hp hT hbxr
        go_wp2_with fail
        go_ret
        exact hf.out
      | false =>
        rw [if_neg (by simp)] at hp
        have a0 := hbxr.c 0 rfl
        have a1 := hbxr.c 1 rfl
        have a2 := hbxr.c 2 rfl
        have a3 := hbxr.c 3 rfl
        have a4 := hbxr.c 4 rfl
        have a5 := hbxr.c 5 rfl
        have a6 := hbxr.c 6 rfl
        have a7 := hbxr.c 7 rfl
        have hb3 := below_new' wr (.cells #[.int .i64 x.q, .int .i64 x.x.y.o, .int .i64 x.x.y.s, .int .i64 x.x.y.a, .bool x.x.y.ov, .slice x.x.A x.x.y.adj.length x.x.c, .slice x.x.B x.x.y.pre.length x.x.d, .int .i64 x.t] 51)
        have rd0 := Rd.lit wr #[.int .i64 x.q, .int .i64 x.x.y.o, .int .i64 x.x.y.s, .int .i64 x.x.y.a, .bool x.x.y.ov, .slice x.x.A x.x.y.adj.length x.x.c, .slice x.x.B x.x.y.pre.length x.x.d, .int .i64 x.t] 51
        have T3 := hT.out.below hb3
        have o3 := T3.own
        have hszz := T3.bel.size
        have hone := itL_one x
        clear hb3 hbxr hT
        replace T3 := Lib.hid T3
        replace hp := Lib.hid hp
        go_wp2_with (at_builtin; refine wpList_appB rfl itT (.tmp 61) (.tmp 63) rfl w1.heap.size rfl o3 (m := 1) rfl (by simp) rd0 hone hA1 hA2 hszz (out.length + 1) _ rfl rfl ?_; intro v6 w6 o6 hbel6 hg6 hv6; obtain ⟨A6, c6, rfl, -⟩ := own_rd o6)
        have T4 : Hid (ItAt w1 w6 B l A6 c6 (out ++ [x])) := T3.out.app o6 hbel6
        have hf : Hid (ItsPost w (wi l x) (.returned (.slice A6 (out.length + 1) c6)) w6) := by
          show ItsPost _ _ _ _
          unfold wi
          rw [hp.out]
          exact ⟨A6, c6, by simp, own_mono T4.out.own hs1, hb1.trans (T4.out.bel.mono hs1)⟩
        clear o6 hbel6 hg6 hv6 o3 rd0 T3 T4 hone hszz
        go_wp2_with fail
        go_ret
        exact hf.out

end Go.Proofs.Ytgbcnglagnlmhaa

namespace Go.Proofs.Ytgbcnglagnlmhaa
set_option linter.unusedVariables false
open Go.RowKit Go.Maps Go.Sort

/-- The reference's flooder. -/
structure RF where
  iv : Int
  now : Int
  ls : List Int
  its : List It
abbrev rfV (R : RF) (A : Option Addr) (n c : Nat) (B : Option Addr) (m d : Nat) : Value := .agg #[.int .i64 R.iv, .int .i64 R.now, .slice A n c, .slice B m d]
def RfAt (w : World) (v : Value) (R : RF) : Prop := ∃ A c B d, v = rfV R A R.ls.length c B R.its.length d ∧ Rd w A (R.ls.map encZ) ∧ Rd w B (itV R.its) ∧ ∀ s ∈ R.its, LxOk w s.x
theorem LxOk.below {w w' : World} {s : Lx} (h : LxOk w s) (hb : Below w.heap.size w w') : LxOk w' s := LaAt.below h hb
theorem RfAt.below {w w' : World} {v : Value} {R : RF} (h : RfAt w v R) (hb : Below w.heap.size w w') : RfAt w' v R := by
  obtain ⟨A, c, B, d, e, hA, hB, hx⟩ := h
  exact ⟨A, c, B, d, e, hA.below hb, hB.below hb, fun s hs => (hx s hs).below hb⟩

def isR (R : RF) (z : Int) : Bool := R.ls.any fun i => i == z
set_option maxRecDepth 100000 in
set_option maxHeartbeats 1600000 in
theorem ris_any (w : World) (v : Value) (R : RF) (h : RfAt w v R) (hn : R.ls.length ≤ 1000000) (z : Int) :
    Calls Try.prog 29 #[v, .int .i64 z] w fun e w' => e = .returned (.bool (isR R z)) ∧ Below w.heap.size w w' := by
  obtain ⟨A, c, B, d, rfl, hA, hB, hx⟩ := h
  have S := ((St.start w).read hA).new' #[.int .i64 R.iv, .int .i64 R.now, .slice A R.ls.length c, .slice B R.its.length d] 44 w.heap.size _ rfl rfl
  have hany := fun k (hk : k < R.ls.length) => any_snoc (fun i => i == z) R.ls k hk
  have hT : (R.ls.take 0).any (fun i => i == z) = false := rfl
  have hend : isR R z = (R.ls.take R.ls.length).any (fun i => i == z) := by rw [List.take_length]; rfl
  have htr : ∀ k, (R.ls.take k).any (fun i => i == z) = true → isR R z = true := fun k h => by
    obtain ⟨x, hx, hp⟩ := List.any_eq_true.1 h
    exact List.any_eq_true.2 ⟨x, List.mem_of_mem_take hx, hp⟩
  generalize isR R z = b at *
  obtain ⟨iv, now, ls, its⟩ := R
  simp only at *
  generalize hm : its.length = m at *
  obtain ⟨n, hln⟩ : ∃ n, ls.length = n := ⟨_, rfl⟩
  rw [hln] at S hend hn ⊢
  replace hln := Lib.hid hln
  replace hany := Lib.hid hany
  replace htr := Lib.hid htr
  replace hend := Lib.hid hend
  clear hA hB hx hm
  have a0 := S.c 0 0 rfl rfl
  have a1 := S.c 0 1 rfl rfl
  have a2 := S.c 0 2 rfl rfl
  have a3 := S.c 0 3 rfl rfl
  go_enter Try.func29, Try.ntmps29
  go_wp2_with fail
  clear a0 a1 a2 a3
  generalize World.alloc w _ = w1 at *
  go_loopw [5] (fun v5 wr => ∃ (k : Nat), v5 = .int .i64 k ∧ k ≤ n ∧ Hid ((ls.take k).any (fun i => i == z) = false) ∧ St w wr [(w.heap.size, [.int .i64 iv, .int .i64 now, .slice A n c, .slice B m d])] [(A, ls.map encZ)]) (fun v5 _ => n - (intOf v5).toNat)
  case atStart => exact ⟨0, rfl, by omega, hT, S⟩
  case round =>
    clear S hT
    obtain ⟨k, rfl, hk, hT, S⟩ := hrel
    have a0 := S.c 0 0 rfl rfl
    have a1 := S.c 0 1 rfl rfl
    have a2 := S.c 0 2 rfl rfl
    have a3 := S.c 0 3 rfl rfl
    by_cases hkn : k < n
    · have hkl : k < ls.length := by rw [hln.out]; exact hkn
      obtain ⟨bz, offz, rfl, hz⟩ := rd_at (S.r 0 rfl) (by simp only [List.length_map]; omega)
      have z0 := hz k _ (by rw [List.getElem?_map, List.getElem?_eq_getElem hkl]; rfl)
      have hnx := hany.out k hkl
      rw [hT.out, Bool.false_or] at hnx
      unfold encZ at z0
      generalize ls[k] = y at *
      replace hnx := Lib.hid hnx
      clear hz
      cases hy : (y == z) with
      | true =>
        have hbt := htr.out (k + 1) (by rw [hnx.out, hy])
        subst hbt
        go_wp2_with fail
        go_ret
        exact ⟨rfl, S.b⟩
      | false =>
        have hT' : Hid ((ls.take (k + 1)).any (fun i => i == z) = false) := by show _ = _; rw [hnx.out, hy]
        clear hT hnx
        go_wp2_with fail
        go_round
        case rel => exact ⟨k + 1, by go_num, by omega, hT', S⟩
        case measure => simp [intOf]; omega
    · obtain rfl : k = n := by omega
      have hbf := hend.out
      rw [hT.out] at hbf
      subst hbf
      go_wp2_with fail
      go_ret
      exact ⟨rfl, S.b⟩

/-! ### Get -/
def gtB (q o : Int) (s : It) : Bool := (s.q == q) && (s.x.y.o == o)
def gtR (its : List It) (q o : Int) : Option It := its.find? (gtB q o)
def gtLx (o : Option It) : Lx := match o with | some s => s.x | none => ⟨laZero, none, 0, none, 0⟩
theorem gtLx_ok {w : World} {its : List It} (h : ∀ s ∈ its, LxOk w s.x) (q o : Int) : LxOk w (gtLx (gtR its q o)) := by
  unfold gtLx
  split
  · next s e => exact h s (List.mem_of_find?_eq_some e)
  · exact (laZero_own w w.heap.size).at
abbrev lxAgg (s : Lx) : Value := laV s.y.o s.y.s s.y.a s.y.ov s.A s.y.adj.length s.c s.B s.y.pre.length s.d
theorem find_snoc (p : It → Bool) (l : List It) (k : Nat) (hk : k < l.length) (h : (l.take k).any p = false) (hp : p l[k] = true) : l.find? p = some l[k] := by
  have hd : l.drop k = l[k] :: l.drop (k + 1) := List.drop_eq_getElem_cons hk
  generalize l[k] = y at *
  have h1 : (l.take k).find? p = none := by
    rw [List.find?_eq_none]
    intro x hx
    have := (List.any_eq_false.1 h) x hx
    simpa using this
  rw [← List.take_append_drop k l, List.find?_append, h1, hd]
  simp [hp]
theorem find_end (p : It → Bool) (l : List It) (h : (l.take l.length).any p = false) : l.find? p = none := by
  rw [List.take_length] at h
  rw [List.find?_eq_none]
  intro x hx
  have := (List.any_eq_false.1 h) x hx
  simpa using this
theorem St.set6' {W w : World} {g : Nat} {bs : List (Nat × List Value)} {rs : List (Option Addr × List Value)} {a0 a1 a2 a3 a4 a5 : Value} (S : St W w ((g, [a0, a1, a2, a3, a4, a5]) :: bs) rs) (v0 v1 v2 v3 v4 v5 : Value) (hg : W.heap.size ≤ g) (hd : ∀ x ∈ bs, x.1 ≠ g) :
    St W ((((((w.setCell ⟨g, 0, none⟩ v0).setCell ⟨g, 1, none⟩ v1).setCell ⟨g, 2, none⟩ v2).setCell ⟨g, 3, none⟩ v3).setCell ⟨g, 4, none⟩ v4).setCell ⟨g, 5, none⟩ v5) ((g, [v0, v1, v2, v3, v4, v5]) :: bs) rs :=
  (((((S.set 0 0 v0 rfl (by simp) hg hd _ rfl).set 0 1 v1 rfl (by simp) hg hd _ rfl).set 0 2 v2 rfl (by simp) hg hd _ rfl).set 0 3 v3 rfl (by simp) hg hd _ rfl).set 0 4 v4 rfl (by simp) hg hd _ rfl).set 0 5 v5 rfl (by simp) hg hd _ rfl

set_option maxRecDepth 100000 in
set_option maxHeartbeats 3200000 in
theorem rget_any (w : World) (v : Value) (R : RF) (h : RfAt w v R) (hn : R.its.length ≤ 1000000) (q o : Int) :
    Calls Try.prog 50 #[v, .int .i64 q, .int .i64 o] w fun e w' => e = .returned (.tuple #[lxAgg (gtLx (gtR R.its q o)), .bool (gtR R.its q o).isSome]) ∧ Below w.heap.size w w' := by
  obtain ⟨A, c, B, d, rfl, hA, hB, hx⟩ := h
  have S := (((St.start w).read hB).new' #[.int .i64 R.iv, .int .i64 R.now, .slice A R.ls.length c, .slice B R.its.length d] 44 w.heap.size _ rfl rfl).new' #[.int .i64 0, .int .i64 0, .int .i64 0, .bool false, .slice none 0 0, .slice none 0 0] 32 (w.heap.size + 1) _ (by simp) rfl
  have hfd := fun k hk => find_snoc (gtB q o) R.its k hk
  have hany := fun k (hk : k < R.its.length) => any_snoc (gtB q o) R.its k hk
  have hend := find_end (gtB q o) R.its
  have hT : (R.its.take 0).any (gtB q o) = false := rfl
  obtain ⟨G, hG⟩ : ∃ G, gtR R.its q o = G := ⟨_, rfl⟩
  change R.its.find? (gtB q o) = G at hG
  rw [show gtR R.its q o = R.its.find? (gtB q o) from rfl, hG]
  rw [hG] at hend hfd
  obtain ⟨iv, now, ls, its⟩ := R
  simp only at *
  generalize hm : ls.length = nl at *
  obtain ⟨m, hlm⟩ : ∃ n, its.length = n := ⟨_, rfl⟩
  rw [hlm] at S hn ⊢
  replace hlm := Lib.hid hlm
  replace hany := Lib.hid hany
  replace hfd := Lib.hid hfd
  replace hend := Lib.hid hend
  clear hA hB hx hm hG
  have a0 := S.c 1 0 rfl rfl
  have a1 := S.c 1 1 rfl rfl
  have a2 := S.c 1 2 rfl rfl
  have a3 := S.c 1 3 rfl rfl
  go_enter Try.func50, Try.ntmps50
  go_wp2_with fail
  clear a0 a1 a2 a3
  generalize World.alloc (World.alloc w _) _ = w1 at *
  go_loopw [8] (fun v8 wr => ∃ (k : Nat), v8 = .int .i64 k ∧ k ≤ m ∧ Hid ((its.take k).any (gtB q o) = false) ∧ St w wr [(w.heap.size + 1, [.int .i64 0, .int .i64 0, .int .i64 0, .bool false, .slice none 0 0, .slice none 0 0]), (w.heap.size, [.int .i64 iv, .int .i64 now, .slice A nl c, .slice B m d])] [(B, itV its)]) (fun v8 _ => m - (intOf v8).toNat)
  case atStart => exact ⟨0, rfl, by omega, hT, S⟩
  case round =>
    clear S hT
    obtain ⟨k, rfl, hk, hT, S⟩ := hrel
    have a0 := S.c 1 0 rfl rfl
    have a1 := S.c 1 1 rfl rfl
    have a2 := S.c 1 2 rfl rfl
    have a3 := S.c 1 3 rfl rfl
    by_cases hkn : k < m
    · have hkl : k < its.length := by rw [hlm.out]; exact hkn
      obtain ⟨ba, off, rfl⟩ := it_form (S.r 0 rfl) (by omega)
      obtain ⟨s, hs⟩ : ∃ s, its[k] = s := ⟨_, rfl⟩
      have hnx := hany.out k hkl
      have hfx := hfd.out k hkl hT.out
      rw [hs] at hnx hfx
      rw [hT.out, Bool.false_or] at hnx
      have hcell := it_cells (S.r 0 rfl) k hkl s hs
      obtain ⟨x0, x1, x2, x3, x4, x5, x6, x7⟩ := hcell
      have hgb : gtB q o s = ((s.q == q) && (s.x.y.o == o)) := rfl
      replace hnx := Lib.hid hnx
      clear hs
      cases hc : gtB q o s with
      | true =>
        have hGs := hfx hc
        subst hGs
        rw [hc] at hgb
        have hc1 := (Bool.and_eq_true_iff.1 hgb.symm)
        obtain ⟨hc1, hc2⟩ := hc1
        have f0 := S.f 0 0 rfl rfl
        have f1 := S.f 0 1 rfl rfl
        have f2 := S.f 0 2 rfl rfl
        have f3 := S.f 0 3 rfl rfl
        have f4 := S.f 0 4 rfl rfl
        have f5 := S.f 0 5 rfl rfl
        have S9 := S.set6' (.int .i64 s.x.y.o) (.int .i64 s.x.y.s) (.int .i64 s.x.y.a) (.bool s.x.y.ov) (.slice s.x.A s.x.y.adj.length s.x.c) (.slice s.x.B s.x.y.pre.length s.x.d) (by omega) (by simp)
        have e0 := S.c 0 0 rfl rfl
        have e1 := S.c 0 1 rfl rfl
        have e2 := S.c 0 2 rfl rfl
        have e3 := S.c 0 3 rfl rfl
        have e4 := S.c 0 4 rfl rfl
        have e5 := S.c 0 5 rfl rfl
        have b0 := S9.c 0 0 rfl rfl
        have b1 := S9.c 0 1 rfl rfl
        have b2 := S9.c 0 2 rfl rfl
        have b3 := S9.c 0 3 rfl rfl
        have b4 := S9.c 0 4 rfl rfl
        have b5 := S9.c 0 5 rfl rfl
        have hb9 := S9.b
        clear hfx hgb hc
        go_wp2_with fail
        exact bodyPost_ret (v := .tuple #[lxAgg s.x, .bool true]) (by simp [results, Try.results50, go_sem, b0, b1, b2, b3, b4, b5]) rfl ⟨rfl, hb9⟩
      | false =>
        have hT' : Hid ((its.take (k + 1)).any (gtB q o) = false) := by show _ = _; rw [hnx.out, hc]
        have hcase : (s.q == q) = false ∨ ((s.q == q) = true ∧ (s.x.y.o == o) = false) := by
          rw [hc] at hgb
          cases h1 : (s.q == q) with
          | false => exact .inl rfl
          | true => rw [h1] at hgb; simp only [Bool.true_and] at hgb; exact .inr ⟨rfl, hgb.symm⟩
        clear hT hnx hfx hgb hc
        rcases hcase with hc1 | ⟨hc1, hc2⟩
        all_goals
          go_wp2_with fail
          go_round
          case rel => exact ⟨k + 1, by go_num, by omega, hT', S⟩
          case measure => simp [intOf]; omega
    · obtain rfl : k = m := by omega
      have hGn := hend.out (by rw [hlm.out]; exact hT.out)
      subst hGn
      have f0 := S.f 0 0 rfl rfl
      have f1 := S.f 0 1 rfl rfl
      have f2 := S.f 0 2 rfl rfl
      have f3 := S.f 0 3 rfl rfl
      have f4 := S.f 0 4 rfl rfl
      have f5 := S.f 0 5 rfl rfl
      have S9 := S.set6' (.int .i64 0) (.int .i64 0) (.int .i64 0) (.bool false) (.slice none 0 0) (.slice none 0 0) (by omega) (by simp)
      have e0 := S.c 0 0 rfl rfl
      have e1 := S.c 0 1 rfl rfl
      have e2 := S.c 0 2 rfl rfl
      have e3 := S.c 0 3 rfl rfl
      have e4 := S.c 0 4 rfl rfl
      have e5 := S.c 0 5 rfl rfl
      have b0 := S9.c 0 0 rfl rfl
      have b1 := S9.c 0 1 rfl rfl
      have b2 := S9.c 0 2 rfl rfl
      have b3 := S9.c 0 3 rfl rfl
      have b4 := S9.c 0 4 rfl rfl
      have b5 := S9.c 0 5 rfl rfl
      have hb9 := S9.b
      go_wp2_with fail
      exact bodyPost_ret (v := .tuple #[lxAgg (gtLx none), .bool false]) (by simp [results, Try.results50, go_sem, b0, b1, b2, b3, b4, b5, gtLx, laZero]) rfl ⟨rfl, hb9⟩

end Go.Proofs.Ytgbcnglagnlmhaa

namespace Go.Proofs.Ytgbcnglagnlmhaa
set_option linter.unusedVariables false
open Go.RowKit Go.Maps Go.Sort

/-- What becomes of the links' list, of the items: the same slice, or one of the call's own. -/
def LsTo (w w' : World) (A : Option Addr) (c : Nat) (ls : List Int) (A' : Option Addr) (c' : Nat) (ls' : List Int) : Prop := (A' = A ∧ c' = c ∧ ls' = ls) ∨ w'.ownsRow w.heap.size 3 1 (.slice A' ls'.length c') ls'.length (ls'.map encZ)
def ItTo (w w' : World) (B : Option Addr) (d : Nat) (its : List It) (B' : Option Addr) (d' : Nat) (its' : List It) : Prop := (B' = B ∧ d' = d ∧ its' = its) ∨ w'.ownsRow w.heap.size 51 8 (.slice B' its'.length d') its'.length (itV its')
def RfPost (w : World) (A : Option Addr) (c : Nat) (B : Option Addr) (d : Nat) (R R' : RF) (e : Ending) (w' : World) : Prop :=
  ∃ A' c' B' d', e = .returned (rfV R' A' R'.ls.length c' B' R'.its.length d') ∧ LsTo w w' A c R.ls A' c' R'.ls ∧ ItTo w w' B d R.its B' d' R'.its ∧ Below w.heap.size w w'
noncomputable def offK (R : RF) (q : Int) (a : La) : Bool := match gtR R.its q a.o with | some s => decide (newI a s.x.y ≤ 0) | none => false
noncomputable def offF (R : RF) (q : Int) (a : Lx) : RF := if offK R q a.y = true then R else ⟨R.iv, R.now, R.ls, wi (wo q a.y.o R.its) ⟨q, a, R.now⟩⟩
theorem wo_le (q o : Int) (l : List It) : (wo q o l).length ≤ l.length := List.length_filter_le _ _
theorem wi_mem {l : List It} {x s : It} (h : s ∈ wi l x) : s = x ∨ s ∈ l := by
  unfold wi at h
  induction l with
  | nil => simp only [ins, List.mem_singleton] at h; exact .inl h
  | cons t l ih =>
    unfold ins at h
    split at h
    · rcases List.mem_cons.1 h with h | h
      · exact .inl h
      · exact .inr h
    · rcases List.mem_cons.1 h with h | h
      · exact .inr (by rw [h]; simp)
      · rcases ih h with h | h
        · exact .inl h
        · exact .inr (List.mem_cons_of_mem _ h)
theorem St.set4 {W w : World} {g : Nat} {bs : List (Nat × List Value)} {rs : List (Option Addr × List Value)} {a0 a1 a2 a3 : Value} (S : St W w ((g, [a0, a1, a2, a3]) :: bs) rs) (v0 v1 v2 v3 : Value) (hg : W.heap.size ≤ g) (hd : ∀ x ∈ bs, x.1 ≠ g) :
    St W ((((w.setCell ⟨g, 0, none⟩ v0).setCell ⟨g, 1, none⟩ v1).setCell ⟨g, 2, none⟩ v2).setCell ⟨g, 3, none⟩ v3) ((g, [v0, v1, v2, v3]) :: bs) rs :=
  (((S.set 0 0 v0 rfl (by simp) hg hd _ rfl).set 0 1 v1 rfl (by simp) hg hd _ rfl).set 0 2 v2 rfl (by simp) hg hd _ rfl).set 0 3 v3 rfl (by simp) hg hd _ rfl
theorem own_set4 {w : World} {base : Nat} {e : TypeId} {size : Nat} {v : Value} {n : Nat} {xs : List Value} (h : w.ownsRow base e size v n xs) {g : Nat} (hg : g < base) (u0 u1 u2 u3 : Value) :
    ((((w.setCell ⟨g, 0, none⟩ u0).setCell ⟨g, 1, none⟩ u1).setCell ⟨g, 2, none⟩ u2).setCell ⟨g, 3, none⟩ u3).ownsRow base e size v n xs :=
  ownsRow_setCell_below (a := ⟨g, 3, none⟩) (ownsRow_setCell_below (a := ⟨g, 2, none⟩) (ownsRow_setCell_below (a := ⟨g, 1, none⟩) (ownsRow_setCell_below (a := ⟨g, 0, none⟩) h hg u0) hg u1) hg u2) hg u3
theorem own_set1 {w : World} {base : Nat} {e : TypeId} {size : Nat} {v : Value} {n : Nat} {xs : List Value} (h : w.ownsRow base e size v n xs) {g : Nat} (hg : g < base) (j : Nat) (u : Value) : (w.setCell ⟨g, j, none⟩ u).ownsRow base e size v n xs :=
  ownsRow_setCell_below (a := ⟨g, j, none⟩) h hg u
/-- Items that all lie in good blocks: one that was at hand, ones of the flooder's. -/
def ItsOk (w : World) (l : List It) : Prop := ∀ s ∈ l, LxOk w s.x
theorem ItsOk.below {w w' : World} {l : List It} (h : ItsOk w l) (hb : Below w.heap.size w w') : ItsOk w' l := fun s hs => (h s hs).below hb

end Go.Proofs.Ytgbcnglagnlmhaa

namespace Go.Proofs.Ytgbcnglagnlmhaa
set_option linter.unusedVariables false
open Go.RowKit Go.Maps Go.Sort

theorem intT : ElemT Try.prog 41 3 (.int .i64 0) 1 8 := ⟨Try.underlying41, by kernel_rfl, rfl, by omega⟩
theorem encZ_one (l : List Int) : ∀ u ∈ l.map encZ, u.oneCell' = true := by
  intro u hu
  obtain ⟨z, _, rfl⟩ := List.mem_map.1 hu
  rfl
theorem Box.uptoB {w w' : World} {g B : Nat} {cs : List Value} (h : Box w g cs) (hb : Below B w w') (hg : g < B) : Box w' g cs := fun i u hu => by
  obtain ⟨h1, h2⟩ := h i u hu
  have e := hb.block g hg
  exact ⟨(World.cell?_of_block (a := ⟨g, i, none⟩) e).trans h1, (World.frozen?_of_block (a := ⟨g, i, none⟩) e).trans h2⟩
theorem St.upto {W w w' : World} {bs : List (Nat × List Value)} {rs : List (Option Addr × List Value)} (S : St W w bs rs) {B : Nat} (hb : Below B w w') (hB : W.heap.size ≤ B) (h : ∀ x ∈ bs, x.1 < B) : St W w' bs rs :=
  ⟨S.b.trans (hb.mono hB), fun i x hx => (S.bx i x hx).uptoB hb (h x (List.mem_of_getElem? hx)), S.rd⟩
theorem big8 {n : Nat} (h : n ≤ 1000009) : n * 8 ≤ 140737488355328 := by omega
def dlL (q : Int) (l : List Int) : List Int := l.filter fun i => i != q
theorem dlL_snoc (q : Int) (l : List Int) (k : Nat) (hk : k < l.length) : dlL q (l.take (k + 1)) = dlL q (l.take k) ++ (if (l[k] != q) = true then [l[k]] else []) := by
  unfold dlL
  rw [List.take_succ_eq_append_getElem hk, List.filter_append]
  congr 1
  by_cases h : (l[k] != q) = true
  · rw [if_pos h]; simp only [List.filter, h]
  · rw [if_neg h]; simp only [List.filter]; rw [Bool.not_eq_true] at h; rw [h]
theorem dlL_len (q : Int) (l : List Int) (k : Nat) : (dlL q (l.take k)).length ≤ k := by
  unfold dlL
  exact Nat.le_trans (List.length_filter_le _ _) (by simp; omega)
def dnF (R : RF) (q : Int) : RF := ⟨R.iv, R.now, dlL q R.ls, wo q (-1) R.its⟩

def RdnPost (w : World) (R' : RF) (e : Ending) (w' : World) : Prop :=
  ∃ A' c' B' d', e = .returned (rfV R' A' R'.ls.length c' B' R'.its.length d') ∧ w'.ownsRow w.heap.size 3 1 (.slice A' R'.ls.length c') R'.ls.length (R'.ls.map encZ) ∧ w'.ownsRow w.heap.size 51 8 (.slice B' R'.its.length d') R'.its.length (itV R'.its) ∧ Below w.heap.size w w'
set_option maxRecDepth 100000 in
set_option maxHeartbeats 6400000 in
theorem rdown_own (w : World) (A : Option Addr) (c : Nat) (B : Option Addr) (d : Nat) (R : RF) (hA : Rd w A (R.ls.map encZ)) (hB : Rd w B (itV R.its)) (hn : R.its.length ≤ 1000000) (hl : R.ls.length ≤ 1000000) (q : Int) :
    Calls Try.prog 30 #[rfV R A R.ls.length c B R.its.length d, .int .i64 q] w (RdnPost w (dnF R q)) := by
  have hnew : Hid (∀ w' A' c' B' d', Below w.heap.size w w' → w'.ownsRow w.heap.size 3 1 (.slice A' (dlL q R.ls).length c') (dlL q R.ls).length ((dlL q R.ls).map encZ) → w'.ownsRow w.heap.size 51 8 (.slice B' (wo q (-1) R.its).length d') (wo q (-1) R.its).length (itV (wo q (-1) R.its)) → RdnPost w (dnF R q) (.returned (.agg #[.int .i64 R.iv, .int .i64 R.now, .slice A' (dlL q R.ls).length c', .slice B' (wo q (-1) R.its).length d'])) w') := fun w' A' c' B' d' hb h1 h2 =>
    ⟨A', c', B', d', rfl, h1, h2, hb⟩
  have S := (((((St.start w).read hA).read hB).new' #[.int .i64 R.iv, .int .i64 R.now, .slice A R.ls.length c, .slice B R.its.length d] 44 w.heap.size _ rfl rfl).new' #[.int .i64 0, .int .i64 0, .slice none 0 0, .slice none 0 0] 44 (w.heap.size + 1) _ (by simp) rfl)
  have hW := fun W (hb : Below w.heap.size w W) => rwithout_any W B R.its.length d R.its (hB.below hb) rfl hn q (-1)
  obtain ⟨L, hL⟩ : ∃ L, wo q (-1) R.its = L := ⟨_, rfl⟩
  rw [hL] at hnew hW
  have hsn := fun k hk => dlL_snoc q R.ls k hk
  have hle := fun k => dlL_len q R.ls k
  have hall : dlL q R.ls = dlL q (R.ls.take R.ls.length) := by rw [List.take_length]
  have h0 : dlL q (R.ls.take 0) = [] := rfl
  obtain ⟨D, hD⟩ : ∃ D, (fun k => dlL q (R.ls.take k)) = D := ⟨_, rfl⟩
  have hDk : ∀ k, dlL q (R.ls.take k) = D k := fun k => by rw [← hD]
  rw [hall] at hnew
  simp only [hDk] at hnew hsn hle h0
  clear hall hL hA hB hn hD hDk
  obtain ⟨Q, hQ⟩ : ∃ Q, RdnPost w (dnF R q) = Q := ⟨_, rfl⟩
  rw [hQ] at hnew ⊢
  clear hQ
  obtain ⟨iv, now, ls, its⟩ := R
  simp only at *
  generalize its.length = m at *
  obtain ⟨n, hln⟩ : ∃ n, ls.length = n := ⟨_, rfl⟩
  rw [hln] at S hnew hl ⊢
  replace hln := Lib.hid hln
  replace hsn := Lib.hid hsn
  replace hle := Lib.hid hle
  replace hW := Lib.hid hW
  generalize itV its = iB at *
  have a0 := S.c 1 0 rfl rfl
  have a1 := S.c 1 1 rfl rfl
  have a2 := S.c 1 2 rfl rfl
  have a3 := S.c 1 3 rfl rfl
  go_enter Try.func30, Try.ntmps30
  go_wp2_with fail
  clear a0 a1 a2 a3
  generalize World.alloc (World.alloc w _) _ = w1 at *
  have o0 : w1.ownsRow (w.heap.size + 2) 3 1 (.slice none 0 0) (D 0).length ((D 0).map encZ) := by rw [h0]; exact World.ownsRow_nil _ _ _ _
  go_loopw [5, 6] (fun v5 v6 wr => ∃ (k : Nat) (A' : Option Addr) (c' : Nat), v6 = .int .i64 k ∧ v5 = .slice A' (D k).length c' ∧ k ≤ n ∧ St w wr [(w.heap.size + 1, [.int .i64 0, .int .i64 0, .slice none 0 0, .slice none 0 0]), (w.heap.size, [.int .i64 iv, .int .i64 now, .slice A n c, .slice B m d])] [(B, iB), (A, ls.map encZ)] ∧ wr.ownsRow (w.heap.size + 2) 3 1 (.slice A' (D k).length c') (D k).length ((D k).map encZ)) (fun _ v6 _ => n - (intOf v6).toNat)
  case atStart => exact ⟨0, none, 0, rfl, by rw [h0]; rfl, by omega, S, by rw [h0]; exact World.ownsRow_nil _ _ _ _⟩
  case round =>
    clear S h0 o0
    obtain ⟨k, A', c', rfl, rfl, hk, S, ho⟩ := hrel
    have a0 := S.c 1 0 rfl rfl
    have a1 := S.c 1 1 rfl rfl
    have a2 := S.c 1 2 rfl rfl
    have a3 := S.c 1 3 rfl rfl
    by_cases hkn : k < n
    · have hkl : k < ls.length := by rw [hln.out]; exact hkn
      obtain ⟨bz, offz, rfl, hz⟩ := rd_at (S.r 1 rfl) (by simp only [List.length_map]; omega)
      have z0 := hz k _ (by rw [List.getElem?_map, List.getElem?_eq_getElem hkl]; rfl)
      have hu := hsn.out k hkl
      have hlk := hle.out k
      unfold encZ at z0
      generalize ls[k] = y at *
      replace hu := Lib.hid hu
      clear hz
      have hs2 : w.heap.size + 1 < wr.heap.size := (S.box 0 rfl).lt (by simp)
      cases hy : (y != q) with
      | true =>
        have rd0 := Rd.lit wr #[.int .i64 y] 3
        have hb3 := below_new' wr (.cells #[.int .i64 y] 3)
        have ho3 := own_below ho hb3
        have S3 := S.call hb3
        have hsz : w.heap.size + 2 ≤ (World.alloc wr (.cells #[.int .i64 y] 3)).heap.size := by simp; omega
        have e : D (k + 1) = D k ++ [y] := by rw [hu.out, if_pos hy]
        have el : (D k).length + 1 = (D (k + 1)).length := by rw [e]; simp
        have el2 : (D k).map encZ ++ [.int .i64 y] = (D (k + 1)).map encZ := by rw [e]; simp
        have b8 : ((D k).length + 1) * 8 ≤ 140737488355328 := big8 (by omega)
        clear ho S hb3 e hu
        replace el2 := Lib.hid el2
        replace el := Lib.hid el
        go_wp2_with (at_builtin; refine wpList_appG rfl intT (.tmp 21) (.tmp 27) rfl (w.heap.size + 2) rfl ho3 (m := 1) rfl (by simp) rd0 (encZ_one [y]) (by simp only [maxLen]; omega) b8 hsz _ _ el.out el2.out ?_; intro v6 w6 o6 hbel6 hg6)
        obtain ⟨A7, c7, rfl, -⟩ := own_rd o6
        have S9 : St w w6 [(w.heap.size + 1, [.int .i64 0, .int .i64 0, .slice none 0 0, .slice none 0 0]), (w.heap.size, [.int .i64 iv, .int .i64 now, .slice (some ⟨bz, offz, none⟩) n c, .slice B m d])] [(B, iB), (some ⟨bz, offz, none⟩, ls.map encZ)] := S3.upto hbel6 (by omega) (by simp)
        go_wp2_with fail
        go_round
        case rel => exact ⟨k + 1, A7, c7, by go_num, rfl, by omega, S9, o6⟩
        case measure => simp [intOf]; omega
      | false =>
        have e : D (k + 1) = D k := by rw [hu.out, if_neg (by simpa using hy), List.append_nil]
        rw [← e] at ho
        have e' := Lib.hid e
        clear e hu
        go_wp2_with fail
        go_round
        case rel => exact ⟨k + 1, A', c', by go_num, by rw [e'.out], by omega, S, ho⟩
        case measure => simp [intOf]; omega
    · obtain rfl : n = k := by omega
      have hs2 : w.heap.size + 1 < wr.heap.size := (S.box 0 rfl).lt (by simp)
      go_wp2_with fail
      (with_reducible refine (hW.out _ S.b).mono ?_)
      rintro e w3 ⟨B3, d3, rfl, ho3, hb⟩
      clear a0 a1 a2 a3
      replace S := S.call hb
      replace ho := own_below ho hb
      clear hb
      have a0 := S.c 1 0 rfl rfl
      have a1 := S.c 1 1 rfl rfl
      have a2 := S.c 1 2 rfl rfl
      have a3 := S.c 1 3 rfl rfl
      have f0 := S.f 1 0 rfl rfl
      have f1 := S.f 1 1 rfl rfl
      have f2 := S.f 1 2 rfl rfl
      have f3 := S.f 1 3 rfl rfl
      have S5 := (S.set 1 2 (.slice A' (D n).length c') rfl (by simp) (Nat.le_refl _) (by simp) _ rfl).set 1 3 (.slice B3 L.length d3) rfl (by simp) (Nat.le_refl _) (by simp) _ rfl
      have S9 := S5.set4 (.int .i64 iv) (.int .i64 now) (.slice A' (D n).length c') (.slice B3 L.length d3) (by omega) (by simp)
      have o8 := own_set4 (own_set1 (own_set1 ho (g := w.heap.size) (by omega) 2 (.slice A' (D n).length c')) (g := w.heap.size) (by omega) 3 (.slice B3 L.length d3)) (g := w.heap.size + 1) (by omega) (.int .i64 iv) (.int .i64 now) (.slice A' (D n).length c') (.slice B3 L.length d3)
      have o9 := own_set4 (own_set1 (own_set1 ho3 (g := w.heap.size) (by omega) 2 (.slice A' (D n).length c')) (g := w.heap.size) (by omega) 3 (.slice B3 L.length d3)) (g := w.heap.size + 1) (by omega) (.int .i64 iv) (.int .i64 now) (.slice A' (D n).length c') (.slice B3 L.length d3)
      have hf9 := Lib.hid (hnew.out _ A' c' B3 d3 S9.b (own_mono o8 (by omega)) (own_mono o9 (by omega)))
      have e0 := S5.c 1 0 rfl rfl
      have e1 := S5.c 1 1 rfl rfl
      have e2 := S5.c 1 2 rfl rfl
      have e3 := S5.c 1 3 rfl rfl
      have r0 := S5.c 0 0 rfl rfl
      have r1 := S5.c 0 1 rfl rfl
      have r2 := S5.c 0 2 rfl rfl
      have r3 := S5.c 0 3 rfl rfl
      have g0 := S5.f 0 0 rfl rfl
      have g1 := S5.f 0 1 rfl rfl
      have g2 := S5.f 0 2 rfl rfl
      have g3 := S5.f 0 3 rfl rfl
      have k0 := S9.c 0 0 rfl rfl
      have k1 := S9.c 0 1 rfl rfl
      have k2 := S9.c 0 2 rfl rfl
      have k3 := S9.c 0 3 rfl rfl
      clear hW hnew ho ho3 o8 o9
      go_wp2_with fail
      exact bodyPost_ret (v := .agg #[.int .i64 iv, .int .i64 now, .slice A' (D n).length c', .slice B3 L.length d3]) (by simp [results, Try.results30, go_sem, k0, k1, k2, k3]) rfl hf9.out

theorem rdown_any (w : World) (A : Option Addr) (c : Nat) (B : Option Addr) (d : Nat) (R : RF) (hA : Rd w A (R.ls.map encZ)) (hB : Rd w B (itV R.its)) (hn : R.its.length ≤ 1000000) (hl : R.ls.length ≤ 1000000) (q : Int) :
    Calls Try.prog 30 #[rfV R A R.ls.length c B R.its.length d, .int .i64 q] w (RfPost w A c B d R (dnF R q)) :=
  (rdown_own w A c B d R hA hB hn hl q).mono fun e w' ⟨A', c', B', d', h1, h2, h3, h4⟩ => ⟨A', c', B', d', h1, .inr h2, .inr h3, h4⟩

end Go.Proofs.Ytgbcnglagnlmhaa

namespace Go.Proofs.Ytgbcnglagnlmhaa
set_option linter.unusedVariables false
open Go.RowKit Go.Maps Go.Sort

abbrev rfC (R : RF) (A : Option Addr) (c : Nat) (B : Option Addr) (d : Nat) : List Value := [.int .i64 R.iv, .int .i64 R.now, .slice A R.ls.length c, .slice B R.its.length d]
def LsK (wr : World) (base : Nat) (A0 : Option Addr) (c0 : Nat) (ls0 : List Int) (A : Option Addr) (c : Nat) (ls : List Int) : Prop := (A = A0 ∧ c = c0 ∧ ls = ls0) ∨ wr.ownsRow base 3 1 (.slice A ls.length c) ls.length (ls.map encZ)
def ItK (wr : World) (base : Nat) (B0 : Option Addr) (d0 : Nat) (its0 : List It) (B : Option Addr) (d : Nat) (its : List It) : Prop := (B = B0 ∧ d = d0 ∧ its = its0) ∨ wr.ownsRow base 51 8 (.slice B its.length d) its.length (itV its)
section
variable {w wr w' : World} {base base' : Nat} {A0 A A' : Option Addr} {ls0 ls ls' : List Int} {c0 c c' : Nat} {B0 B B' : Option Addr} {its0 its its' : List It} {d0 d d' : Nat}
theorem LsK.below (h : LsK wr base A0 c0 ls0 A c ls) (hb : Below wr.heap.size wr w') : LsK w' base A0 c0 ls0 A c ls := h.imp id fun h => own_below h hb
theorem ItK.below (h : ItK wr base B0 d0 its0 B d its) (hb : Below wr.heap.size wr w') : ItK w' base B0 d0 its0 B d its := h.imp id fun h => own_below h hb
theorem LsK.to (h : LsK wr base A0 c0 ls0 A c ls) (hb : Below wr.heap.size wr w') (hs : base ≤ wr.heap.size) (h2 : LsTo wr w' A c ls A' c' ls') : LsK w' base A0 c0 ls0 A' c' ls' := by
  rcases h2 with ⟨rfl, rfl, rfl⟩ | h2
  · exact h.below hb
  · exact .inr (own_mono h2 hs)
theorem ItK.to (h : ItK wr base B0 d0 its0 B d its) (hb : Below wr.heap.size wr w') (hs : base ≤ wr.heap.size) (h2 : ItTo wr w' B d its B' d' its') : ItK w' base B0 d0 its0 B' d' its' := by
  rcases h2 with ⟨rfl, rfl, rfl⟩ | h2
  · exact h.below hb
  · exact .inr (own_mono h2 hs)
theorem LsK.rd (h : LsK wr base A0 c0 ls0 A c ls) (h0 : Rd wr A0 (ls0.map encZ)) : Rd wr A (ls.map encZ) := by
  rcases h with ⟨rfl, _, rfl⟩ | h
  · exact h0
  · exact own_slice h
theorem ItK.rd (h : ItK wr base B0 d0 its0 B d its) (h0 : Rd wr B0 (itV its0)) : Rd wr B (itV its) := by
  rcases h with ⟨rfl, _, rfl⟩ | h
  · exact h0
  · exact own_slice h
theorem LsK.set4 (h : LsK wr base A0 c0 ls0 A c ls) {g : Nat} (hg : g < base) (u0 u1 u2 u3 : Value) : LsK ((((wr.setCell ⟨g, 0, none⟩ u0).setCell ⟨g, 1, none⟩ u1).setCell ⟨g, 2, none⟩ u2).setCell ⟨g, 3, none⟩ u3) base A0 c0 ls0 A c ls := h.imp id fun h => own_set4 h hg u0 u1 u2 u3
theorem ItK.set4 (h : ItK wr base B0 d0 its0 B d its) {g : Nat} (hg : g < base) (u0 u1 u2 u3 : Value) : ItK ((((wr.setCell ⟨g, 0, none⟩ u0).setCell ⟨g, 1, none⟩ u1).setCell ⟨g, 2, none⟩ u2).setCell ⟨g, 3, none⟩ u3) base B0 d0 its0 B d its := h.imp id fun h => own_set4 h hg u0 u1 u2 u3
theorem LsK.set1 (h : LsK wr base A0 c0 ls0 A c ls) {g : Nat} (hg : g < base) (j : Nat) (u : Value) : LsK (wr.setCell ⟨g, j, none⟩ u) base A0 c0 ls0 A c ls := h.imp id fun h => own_set1 h hg j u
theorem ItK.set1 (h : ItK wr base B0 d0 its0 B d its) {g : Nat} (hg : g < base) (j : Nat) (u : Value) : ItK (wr.setCell ⟨g, j, none⟩ u) base B0 d0 its0 B d its := h.imp id fun h => own_set1 h hg j u
theorem LsK.fin (h : LsK wr base A0 c0 ls0 A c ls) (hb : base' ≤ base) (hw : base' = w.heap.size) : LsTo w wr A0 c0 ls0 A c ls := h.imp id fun h => by subst hw; exact own_mono h hb
theorem ItK.fin (h : ItK wr base B0 d0 its0 B d its) (hb : base' ≤ base) (hw : base' = w.heap.size) : ItTo w wr B0 d0 its0 B d its := h.imp id fun h => by subst hw; exact own_mono h hb
end

end Go.Proofs.Ytgbcnglagnlmhaa

namespace Go.Proofs.Ytgbcnglagnlmhaa
set_option linter.unusedVariables false
open Go.RowKit Go.Maps Go.Sort

set_option maxRecDepth 100000 in
set_option maxHeartbeats 6400000 in
theorem roffer_any (w : World) (A : Option Addr) (c : Nat) (B : Option Addr) (d : Nat) (R : RF) (hA : Rd w A (R.ls.map encZ)) (hB : Rd w B (itV R.its)) (hx : ItsOk w R.its) (hn : R.its.length ≤ 900000) (q : Int) (a : Lx) (ha : LxOk w a) :
    Calls Try.prog 32 #[rfV R A R.ls.length c B R.its.length d, .int .i64 q, lxAgg a] w (RfPost w A c B d R (offF R q a)) := by
  have hG := fun W (hb : Below w.heap.size w W) => rget_any W _ R (RfAt.below ⟨A, c, B, d, rfl, hA, hB, hx⟩ hb) (by omega) q a.y.o
  have hsame : Hid (∀ w', Below w.heap.size w w' → offK R q a.y = true → RfPost w A c B d R (offF R q a) (.returned (rfV R A R.ls.length c B R.its.length d)) w') := fun w' hb ho => by
    unfold offF
    rw [if_pos ho]
    exact ⟨A, c, B, d, rfl, .inl ⟨rfl, rfl, rfl⟩, .inl ⟨rfl, rfl, rfl⟩, hb⟩
  have hnew : Hid (∀ w' B' d', Below w.heap.size w w' → w'.ownsRow w.heap.size 51 8 (.slice B' (wi (wo q a.y.o R.its) ⟨q, a, R.now⟩).length d') (wi (wo q a.y.o R.its) ⟨q, a, R.now⟩).length (itV (wi (wo q a.y.o R.its) ⟨q, a, R.now⟩)) → offK R q a.y = false → RfPost w A c B d R (offF R q a) (.returned (.agg #[.int .i64 R.iv, .int .i64 R.now, .slice A R.ls.length c, .slice B' (wi (wo q a.y.o R.its) ⟨q, a, R.now⟩).length d'])) w') := fun w' B' d' hb hr ho => by
    unfold offF
    rw [if_neg (by rw [ho]; simp)]
    exact ⟨A, c, B', d', rfl, .inl ⟨rfl, rfl, rfl⟩, .inr hr, hb⟩
  have S := (((((St.start w).read hB).new' #[.int .i64 R.iv, .int .i64 R.now, .slice A R.ls.length c, .slice B R.its.length d] 44 w.heap.size _ rfl rfl).new' #[.int .i64 a.y.o, .int .i64 a.y.s, .int .i64 a.y.a, .bool a.y.ov, .slice a.A a.y.adj.length a.c, .slice a.B a.y.pre.length a.d] 32 (w.heap.size + 1) _ (by simp) rfl)).new' #[.int .i64 0, .int .i64 0, .slice none 0 0, .slice none 0 0] 44 (w.heap.size + 2) _ (by simp) rfl
  have hgx := gtLx_ok hx q a.y.o
  have hgs : Hid (offK R q a.y = match gtR R.its q a.y.o with | some s => decide (newI a.y s.x.y ≤ 0) | none => false) := rfl
  have hb9 : R.its.length ≤ 1000000 := by omega
  have hW := fun W (hb : Below w.heap.size w W) => rwithout_any W B R.its.length d R.its (hB.below hb) rfl hb9 q a.y.o
  have hI := fun W B' d' (hr : Rd W B' (itV (wo q a.y.o R.its))) => rwith_any W B' (wo q a.y.o R.its).length d' (wo q a.y.o R.its) hr rfl (Nat.le_trans (wo_le _ _ _) hb9) ⟨q, a, R.now⟩
  replace hG := Lib.hid hG
  replace hW := Lib.hid hW
  replace hI := Lib.hid hI
  replace ha := Lib.hid ha
  clear hA hB hx
  have a0 := S.c 2 0 rfl rfl
  have a1 := S.c 2 1 rfl rfl
  have a2 := S.c 2 2 rfl rfl
  have a3 := S.c 2 3 rfl rfl
  have b0 := S.c 1 0 rfl rfl
  have b1 := S.c 1 1 rfl rfl
  have b2 := S.c 1 2 rfl rfl
  have b3 := S.c 1 3 rfl rfl
  have b4 := S.c 1 4 rfl rfl
  have b5 := S.c 1 5 rfl rfl
  go_enter Try.func32, Try.ntmps32
  go_wp2_with fail
  (with_reducible refine (hG.out _ S.b).mono ?_)
  rintro e w2 ⟨rfl, hb⟩
  clear a0 a1 a2 a3
  clear b0 b1 b2 b3 b4 b5
  replace S := S.call hb
  clear hb hG
  generalize gtR R.its q a.y.o = G at *
  obtain ⟨X, hX⟩ : ∃ X, gtLx G = X := ⟨_, rfl⟩
  rw [hX] at hgx ⊢
  replace S := S.new' #[.int .i64 X.y.o, .int .i64 X.y.s, .int .i64 X.y.a, .bool X.y.ov, .slice X.A X.y.adj.length X.c, .slice X.B X.y.pre.length X.d] 32 (w2.heap.size) _ (by first | rfl | simp) rfl
  obtain ⟨L, hL⟩ : ∃ L, wi (wo q a.y.o R.its) ⟨q, a, R.now⟩ = L := ⟨_, rfl⟩
  rw [hL] at hnew
  simp only [hL] at hI
  obtain ⟨L1, hL1⟩ : ∃ L, wo q a.y.o R.its = L := ⟨_, rfl⟩
  rw [hL1] at hW
  simp only [hL1] at hI
  clear hL hL1
  cases G
  case' none =>
    have hno : Hid (offK R q a.y = false) := hgs
    clear hsame hgs hgx hX
  case' some s =>
    obtain rfl : s.x = X := hX
    have NW := rnewer_any _ _ _ a.y s.x.y (LaAt.below ha.out S.b) (hgx.below S.b)
    have hoz : Hid (offK R q a.y = decide (newI a.y s.x.y ≤ 0)) := hgs
    generalize newI a.y s.x.y = z at *
    generalize s.x = X at *
    replace NW := Lib.hid NW
    clear hgs hgx
    have b0 := S.c 2 0 rfl rfl
    have b1 := S.c 2 1 rfl rfl
    have b2 := S.c 2 2 rfl rfl
    have b3 := S.c 2 3 rfl rfl
    have b4 := S.c 2 4 rfl rfl
    have b5 := S.c 2 5 rfl rfl
    have e0 := S.c 0 0 rfl rfl
    have e1 := S.c 0 1 rfl rfl
    have e2 := S.c 0 2 rfl rfl
    have e3 := S.c 0 3 rfl rfl
    have e4 := S.c 0 4 rfl rfl
    have e5 := S.c 0 5 rfl rfl
    go_wp2_with fail
    (with_reducible refine (NW.out).mono ?_)
    rintro e w4 ⟨rfl, hb⟩
    clear b0 b1 b2 b3 b4 b5
    clear e0 e1 e2 e3 e4 e5
    replace S := S.call hb
    clear NW hb
    rcases hz : decide (z ≤ 0) with _ | _
    rotate_left
    · have hf := fun w' hb => hsame.out w' hb (hoz.out.trans hz)
      have b0 := S.c 3 0 rfl rfl
      have b1 := S.c 3 1 rfl rfl
      have b2 := S.c 3 2 rfl rfl
      have b3 := S.c 3 3 rfl rfl
      have S9 := (S.keepBoxes [(w.heap.size + 2, [.int .i64 0, .int .i64 0, .slice none 0 0, .slice none 0 0])] (by simp)).set4 (.int .i64 R.iv) (.int .i64 R.now) (.slice A R.ls.length c) (.slice B R.its.length d) (by omega) (by simp)
      have e0 := S9.c 0 0 rfl rfl
      have e1 := S9.c 0 1 rfl rfl
      have e2 := S9.c 0 2 rfl rfl
      have e3 := S9.c 0 3 rfl rfl
      have r0 := S.c 1 0 rfl rfl
      have r1 := S.c 1 1 rfl rfl
      have r2 := S.c 1 2 rfl rfl
      have r3 := S.c 1 3 rfl rfl
      have f0 := S.f 1 0 rfl rfl
      have f1 := S.f 1 1 rfl rfl
      have f2 := S.f 1 2 rfl rfl
      have f3 := S.f 1 3 rfl rfl
      have hf9 := Lib.hid (hf _ S9.b)
      clear hsame hnew hoz hf hW hI
      go_wp2_with fail
      exact bodyPost_ret (v := rfV R A R.ls.length c B R.its.length d) (by simp [results, Try.results32, go_sem, e0, e1, e2, e3]) rfl hf9.out
    have hno : Hid (offK R q a.y = false) := hoz.out.trans hz
    clear hsame hoz
  all_goals
    have hf := hnew
    clear hnew
    go_upto_region 4 with fail
    (try clear hz)
    have tok1 : True := trivial
    have Sd := S.drew
    have a0 := Sd.c 3 0 rfl rfl
    have a1 := Sd.c 3 1 rfl rfl
    have a2 := Sd.c 3 2 rfl rfl
    have a3 := Sd.c 3 3 rfl rfl
    have b0 := Sd.c 2 0 rfl rfl
    have b1 := Sd.c 2 1 rfl rfl
    have b2 := Sd.c 2 2 rfl rfl
    have b3 := Sd.c 2 3 rfl rfl
    have b4 := Sd.c 2 4 rfl rfl
    have b5 := Sd.c 2 5 rfl rfl
    have tok2 : True := trivial
    clear S
    go_region_law
      (first
        | (clear tok1; rw [if_pos (by simp [Region.wanted])]; go_simp; (with_reducible refine (hW.out _ Sd.b).mono ?_); rintro e wa ⟨A1, c1, rfl, hr1, hba⟩; have T := Sd.call hba; have ka := T.c 3 1 rfl rfl; have kb0 := T.c 2 0 rfl rfl; have kb1 := T.c 2 1 rfl rfl; have kb2 := T.c 2 2 rfl rfl; have kb3 := T.c 2 3 rfl rfl; have kb4 := T.c 2 4 rfl rfl; have kb5 := T.c 2 5 rfl rfl; dsimp only)
        | (clear tok2; rw [if_pos (by simp [Region.wanted])]; go_simp; (with_reducible refine (hI.out _ _ _ (own_slice hr1)).mono ?_); rintro e wb ⟨A2, c2, rfl, hr2, hbb⟩; have U := T.call hbb; have ff := U.f 3 3 rfl rfl; have cc := U.c 3 3 rfl rfl; dsimp only))
    all_goals
      have hz2 : w.heap.size + 2 < wa.heap.size := (T.box 1 rfl).lt (by simp)
      have V := (U.keepBoxes [(w.heap.size + 2, [.int .i64 0, .int .i64 0, .slice none 0 0, .slice none 0 0]), (w.heap.size, [.int .i64 R.iv, .int .i64 R.now, .slice A R.ls.length c, .slice B R.its.length d])] (by simp)).set 1 3 (.slice A2 L.length c2) rfl (by simp) (Nat.le_refl _) (by simp) _ rfl
      have V9 := V.set4 (.int .i64 R.iv) (.int .i64 R.now) (.slice A R.ls.length c) (.slice A2 L.length c2) (by omega) (by simp)
      have o9 := own_set4 (own_set1 hr2 (g := w.heap.size) (by omega) 3 (.slice A2 L.length c2)) (g := w.heap.size + 2) (by omega) (.int .i64 R.iv) (.int .i64 R.now) (.slice A R.ls.length c) (.slice A2 L.length c2)
      have hf9 := Lib.hid (hf.out _ A2 c2 V9.b (own_mono o9 (by omega)) hno.out)
      have e0 := V.c 1 0 rfl rfl
      have e1 := V.c 1 1 rfl rfl
      have e2 := V.c 1 2 rfl rfl
      have e3 := V.c 1 3 rfl rfl
      have r0 := V.c 0 0 rfl rfl
      have r1 := V.c 0 1 rfl rfl
      have r2 := V.c 0 2 rfl rfl
      have r3 := V.c 0 3 rfl rfl
      have f0 := V.f 0 0 rfl rfl
      have f1 := V.f 0 1 rfl rfl
      have f2 := V.f 0 2 rfl rfl
      have f3 := V.f 0 3 rfl rfl
      have k0 := V9.c 0 0 rfl rfl
      have k1 := V9.c 0 1 rfl rfl
      have k2 := V9.c 0 2 rfl rfl
      have k3 := V9.c 0 3 rfl rfl
      clear hf hW hI T U hr1 hr2 hba hbb
      go_wp2_with fail
      exact bodyPost_ret (v := .agg #[.int .i64 R.iv, .int .i64 R.now, .slice A R.ls.length c, .slice A2 L.length c2]) (by simp [results, Try.results32, go_sem, k0, k1, k2, k3]) rfl hf9.out

end Go.Proofs.Ytgbcnglagnlmhaa

namespace Go.Proofs.Ytgbcnglagnlmhaa
set_option linter.unusedVariables false
open Go.RowKit Go.Maps Go.Sort

noncomputable def spB (R : RF) (q : Int) (a : La) : Bool := match gtR R.its q a.o with | some s => decide (newI s.x.y a ≤ 0) | none => false
noncomputable def spS (a : Lx) (ex : Int) (R : RF) (q : Int) : RF := if (q != ex) = true then offF R q a else if spB R ex a.y = true then ⟨R.iv, R.now, R.ls, wo ex a.y.o R.its⟩ else R
noncomputable def spF (R : RF) (a : Lx) (ex : Int) : RF := R.ls.foldl (spS a ex) R
theorem offF_ls (R : RF) (q : Int) (a : Lx) : (offF R q a).ls = R.ls ∧ (offF R q a).iv = R.iv ∧ (offF R q a).now = R.now := by unfold offF; split <;> exact ⟨rfl, rfl, rfl⟩
theorem wi_len (l : List It) (x : It) : (wi l x).length = l.length + 1 := ins_len _ _ _
theorem offF_len (R : RF) (q : Int) (a : Lx) : (offF R q a).its.length ≤ R.its.length + 1 := by
  unfold offF
  split
  · omega
  · show (wi _ _).length ≤ _
    rw [wi_len]
    have := wo_le q a.y.o R.its
    omega
theorem offF_ok {w : World} {R : RF} {q : Int} {a : Lx} (h : ItsOk w R.its) (ha : LxOk w a) : ItsOk w (offF R q a).its := by
  unfold offF
  split
  · exact h
  · intro s hs
    rcases wi_mem hs with e | e
    · rw [e]; exact ha
    · exact h s (List.mem_filter.1 e).1
theorem spS_ls (a : Lx) (ex : Int) (R : RF) (q : Int) : (spS a ex R q).ls = R.ls ∧ (spS a ex R q).iv = R.iv ∧ (spS a ex R q).now = R.now := by
  unfold spS
  split
  · exact offF_ls R q a
  · split <;> exact ⟨rfl, rfl, rfl⟩
theorem spS_len (a : Lx) (ex : Int) (R : RF) (q : Int) : (spS a ex R q).its.length ≤ R.its.length + 1 := by
  unfold spS
  split
  · exact offF_len R q a
  · split
    · exact Nat.le_trans (wo_le ex a.y.o R.its) (Nat.le_succ _)
    · omega
theorem spS_ok {w : World} {R : RF} {q ex : Int} {a : Lx} (h : ItsOk w R.its) (ha : LxOk w a) : ItsOk w (spS a ex R q).its := by
  unfold spS
  split
  · exact offF_ok h ha
  · split
    · exact fun s hs => h s (List.mem_filter.1 hs).1
    · exact h
theorem fold_snoc {α β : Type} (f : α → β → α) (z : α) (l : List β) (k : Nat) (hk : k < l.length) : (l.take (k + 1)).foldl f z = f ((l.take k).foldl f z) l[k] := by
  rw [List.take_succ_eq_append_getElem hk, List.foldl_append]; rfl

/-- Within the loop of Spread. -/
structure SrAt (w wr : World) (A0 : Option Addr) (c0 : Nat) (B0 : Option Addr) (d0 : Nat) (R0 : RF) (aC : List Value) (k : Nat) (R : RF) (A : Option Addr) (c : Nat) (B : Option Addr) (d : Nat) : Prop where
  S : St w wr [(w.heap.size, rfC R A c B d), (w.heap.size + 1, aC), (w.heap.size + 2, [.int .i64 0, .int .i64 0, .slice none 0 0, .slice none 0 0])] [(A0, R0.ls.map encZ), (B0, itV R0.its)]
  la : LsK wr (w.heap.size + 3) A0 c0 R0.ls A c R.ls
  it : ItK wr (w.heap.size + 3) B0 d0 R0.its B d R.its
  ls : R.ls = R0.ls
  ok : ItsOk w R.its
  ln : R.its.length ≤ R0.its.length + k
section
variable {w wr w' : World} {A0 B0 A B A' B' : Option Addr} {R0 R R' : RF} {aC : List Value} {k c0 d0 c d c' d' : Nat}
theorem SrAt.below (h : SrAt w wr A0 c0 B0 d0 R0 aC k R A c B d) (hb : Below wr.heap.size wr w') : SrAt w w' A0 c0 B0 d0 R0 aC k R A c B d := ⟨h.S.call hb, h.la.below hb, h.it.below hb, h.ls, h.ok, h.ln⟩
theorem SrAt.size (h : SrAt w wr A0 c0 B0 d0 R0 aC k R A c B d) : w.heap.size + 3 ≤ wr.heap.size := (h.S.box 2 rfl).lt (by simp)
theorem SrAt.rdA (h : SrAt w wr A0 c0 B0 d0 R0 aC k R A c B d) : Rd wr A (R.ls.map encZ) := h.la.rd (h.S.r 0 rfl)
theorem SrAt.rdB (h : SrAt w wr A0 c0 B0 d0 R0 aC k R A c B d) : Rd wr B (itV R.its) := h.it.rd (h.S.r 1 rfl)
theorem SrAt.okr (h : SrAt w wr A0 c0 B0 d0 R0 aC k R A c B d) : ItsOk wr R.its := h.ok.below h.S.b
/-- A call has given another flooder, which is stored. -/
theorem SrAt.to (h : SrAt w wr A0 c0 B0 d0 R0 aC k R A c B d) (hb : Below wr.heap.size wr w') (h1 : LsTo wr w' A c R.ls A' c' R'.ls) (h2 : ItTo wr w' B d R.its B' d' R'.its) (e1 : R'.ls = R.ls) (e2 : ItsOk w R'.its) (e3 : R'.its.length ≤ R.its.length + 1) :
    SrAt w ((((w'.setCell ⟨w.heap.size, 0, none⟩ (.int .i64 R'.iv)).setCell ⟨w.heap.size, 1, none⟩ (.int .i64 R'.now)).setCell ⟨w.heap.size, 2, none⟩ (.slice A' R'.ls.length c')).setCell ⟨w.heap.size, 3, none⟩ (.slice B' R'.its.length d')) A0 c0 B0 d0 R0 aC (k + 1) R' A' c' B' d' :=
  ⟨(h.S.call hb).set4 _ _ _ _ (Nat.le_refl _) (by simp), (h.la.to hb h.size h1).set4 (by omega) _ _ _ _, (h.it.to hb h.size h2).set4 (by omega) _ _ _ _, e1.trans h.ls, e2, by have := h.ln; omega⟩
theorem SrAt.same (h : SrAt w wr A0 c0 B0 d0 R0 aC k R A c B d) : SrAt w wr A0 c0 B0 d0 R0 aC (k + 1) R A c B d := ⟨h.S, h.la, h.it, h.ls, h.ok, Nat.le_trans h.ln (by omega)⟩
/-- .. some items have gone. -/
theorem SrAt.less (h : SrAt w wr A0 c0 B0 d0 R0 aC k R A c B d) {q o : Int} (hb : Below wr.heap.size wr w') (h2 : w'.ownsRow wr.heap.size 51 8 (.slice B' (wo q o R.its).length d') (wo q o R.its).length (itV (wo q o R.its))) :
    SrAt w (w'.setCell ⟨w.heap.size, 3, none⟩ (.slice B' (wo q o R.its).length d')) A0 c0 B0 d0 R0 aC (k + 1) ⟨R.iv, R.now, R.ls, wo q o R.its⟩ A c B' d' :=
  ⟨(h.S.call hb).set 0 3 _ rfl (by simp) (Nat.le_refl _) (by simp) _ rfl, (h.la.below hb).set1 (by omega) _ _, .inr (own_set1 (own_mono h2 h.size) (by omega) _ _), h.ls, fun s hs => h.ok s (List.mem_filter.1 hs).1, Nat.le_trans (wo_le _ _ _) (Nat.le_trans h.ln (by omega))⟩
end

set_option maxRecDepth 100000 in
set_option maxHeartbeats 6400000 in
theorem rspread_any (w : World) (A : Option Addr) (c : Nat) (B : Option Addr) (d : Nat) (R : RF) (hA : Rd w A (R.ls.map encZ)) (hB : Rd w B (itV R.its)) (hx : ItsOk w R.its) (hn : R.its.length + R.ls.length ≤ 900000) (a : Lx) (ha : LxOk w a) (ex : Int) :
    Calls Try.prog 33 #[rfV R A R.ls.length c B R.its.length d, lxAgg a, .int .i64 ex] w (RfPost w A c B d R (spF R a ex)) := by
  have S := (((((St.start w).read hB).read hA).new' #[.int .i64 R.iv, .int .i64 R.now, .slice A R.ls.length c, .slice B R.its.length d] 44 w.heap.size _ rfl rfl).new' #[.int .i64 a.y.o, .int .i64 a.y.s, .int .i64 a.y.a, .bool a.y.ov, .slice a.A a.y.adj.length a.c, .slice a.B a.y.pre.length a.d] 32 (w.heap.size + 1) _ (by simp) rfl).new' #[.int .i64 0, .int .i64 0, .slice none 0 0, .slice none 0 0] 44 (w.heap.size + 2) _ (by simp) rfl
  have hln : ∃ n, R.ls.length = n := ⟨_, rfl⟩
  obtain ⟨n, hln⟩ := hln
  have P0 : SrAt w _ A c B d R [.int .i64 a.y.o, .int .i64 a.y.s, .int .i64 a.y.a, .bool a.y.ov, .slice a.A a.y.adj.length a.c, .slice a.B a.y.pre.length a.d] 0 R A c B d := ⟨S.keepBoxes _ (by simp), .inl ⟨rfl, rfl, rfl⟩, .inl ⟨rfl, rfl, rfl⟩, rfl, hx, by omega⟩
  have hsn := fun k hk => fold_snoc (spS a ex) R R.ls k hk
  have hall : spF R a ex = (R.ls.take n).foldl (spS a ex) R := by unfold spF; rw [← hln, List.take_length]
  have h0 : (R.ls.take 0).foldl (spS a ex) R = R := rfl
  obtain ⟨F, hF⟩ : ∃ F, (fun k => (R.ls.take k).foldl (spS a ex) R) = F := ⟨_, rfl⟩
  have hk : ∀ k, (R.ls.take k).foldl (spS a ex) R = F k := fun k => by rw [← hF]
  rw [hall]
  simp only [hk] at hsn h0 ⊢
  clear hall hk hF S hA hB hx
  replace hsn := Lib.hid hsn
  replace hln := Lib.hid hln
  replace ha := Lib.hid ha
  replace h0 := Lib.hid h0
  go_enter Try.func33, Try.ntmps33
  go_wp2_with fail
  generalize World.alloc (World.alloc (World.alloc w _) _) _ = w1 at *
  go_loopw [7] (fun v7 wr => ∃ (k : Nat) (A' : Option Addr) (c' : Nat) (B' : Option Addr) (d' : Nat), v7 = .int .i64 k ∧ k ≤ n ∧ SrAt w wr A c B d R [.int .i64 a.y.o, .int .i64 a.y.s, .int .i64 a.y.a, .bool a.y.ov, .slice a.A a.y.adj.length a.c, .slice a.B a.y.pre.length a.d] k (F k) A' c' B' d') (fun v7 _ => n - (intOf v7).toNat)
  case atStart => exact ⟨0, A, c, B, d, rfl, by omega, by rw [h0.out]; exact P0⟩
  case round =>
    clear P0 h0
    obtain ⟨k, A', c', B', d', rfl, hk, P⟩ := hrel
    obtain ⟨Rk, hRk⟩ : ∃ z, F k = z := ⟨_, rfl⟩
    rw [hRk] at P
    have hlk : Rk.ls.length = n := by rw [P.ls, hln.out]
    have hi9 := P.ln
    by_cases hkn : k < n
    · have hkl : k < R.ls.length := by rw [hln.out]; exact hkn
      have hu := hsn.out k hkl
      rw [hRk] at hu
      obtain ⟨bz, offz, rfl, hz⟩ := rd_at P.rdA (by simp only [List.length_map]; omega)
      have z0 := hz k _ (by rw [P.ls, List.getElem?_map, List.getElem?_eq_getElem hkl]; rfl)
      unfold encZ at z0
      generalize R.ls[k] = y at *
      have hkr : k < Rk.ls.length := by omega
      replace hu := Lib.hid hu
      replace hRk := Lib.hid hRk
      replace hlk := Lib.hid hlk
      have hlen : Rk.its.length ≤ 900000 := by omega
      clear hz
      have a0 := P.S.c 0 0 rfl rfl
      have a1 := P.S.c 0 1 rfl rfl
      have a2 := P.S.c 0 2 rfl rfl
      have a3 := P.S.c 0 3 rfl rfl
      cases hye : (y != ex) with
      | true =>
        have OFF := fun W (hb : Below wr.heap.size wr W) => roffer_any W _ c' _ d' Rk ((P.below hb).rdA) ((P.below hb).rdB) ((P.below hb).okr) hlen y a (ha.out.below (P.below hb).S.b)
        have hu2 : Hid (F (k + 1) = offF Rk y a) := show _ = _ by rw [hu.out]; unfold spS; rw [if_pos hye]
        replace OFF := Lib.hid OFF
        clear hu
        have hfr := P.S.f 0 0 rfl rfl
        go_upto_region 5 with fail
        clear a0 a1 a2 a3
        have Pd := P.below (Below.refl _ _).drew
        have hbd : Below wr.heap.size wr wr.drew := (Below.refl _ _).drew
        have z1 : wr.drew.cell? ⟨bz, offz + k, none⟩ = some (.int .i64 y) := z0
        have tok1 : True := trivial
        have a0 := Pd.S.c 0 0 rfl rfl
        have a1 := Pd.S.c 0 1 rfl rfl
        have a2 := Pd.S.c 0 2 rfl rfl
        have a3 := Pd.S.c 0 3 rfl rfl
        have b0 := Pd.S.c 1 0 rfl rfl
        have b1 := Pd.S.c 1 1 rfl rfl
        have b2 := Pd.S.c 1 2 rfl rfl
        have b3 := Pd.S.c 1 3 rfl rfl
        have b4 := Pd.S.c 1 4 rfl rfl
        have b5 := Pd.S.c 1 5 rfl rfl
        clear P z0 hfr
        go_region_law
          (first
            | (clear tok1; rw [if_pos (by simp [Region.wanted])]; go_simp; (with_reducible refine (OFF.out _ hbd).mono ?_); rintro e wa ⟨A2, c2, B2, d2, rfl, t1, t2, hba⟩; have T := Pd.S.call hba; have f0 := T.f 0 0 rfl rfl; have f1 := T.f 0 1 rfl rfl; have f2 := T.f 0 2 rfl rfl; have f3 := T.f 0 3 rfl rfl; have g0 := T.c 0 0 rfl rfl; have g1 := T.c 0 1 rfl rfl; have g2 := T.c 0 2 rfl rfl; have g3 := T.c 0 3 rfl rfl; dsimp only))
        all_goals
          have P9 := Pd.to hba t1 t2 (offF_ls Rk y a).1 (offF_ok Pd.ok ha.out) (offF_len Rk y a)
          replace P9 := Lib.hid P9
          clear OFF T t1 t2 hba Pd hbd
          go_wp2_with fail
          go_round
          case rel => exact ⟨k + 1, A2, c2, B2, d2, by go_num, by omega, by rw [hu2.out]; exact P9.out⟩
          case measure => simp [intOf]; omega
      | false =>
        have hyx : y = ex := by simpa using hye
        have hu2 : Hid (F (k + 1) = if spB Rk ex a.y = true then ⟨Rk.iv, Rk.now, Rk.ls, wo ex a.y.o Rk.its⟩ else Rk) := show _ = _ by rw [hu.out]; unfold spS; rw [if_neg (by rw [hye]; simp)]
        have hG := rget_any wr _ Rk ⟨_, c', _, d', rfl, P.rdA, P.rdB, P.okr⟩ (by omega) ex a.y.o
        have hgs : Hid (spB Rk ex a.y = match gtR Rk.its ex a.y.o with | some s => decide (newI s.x.y a.y ≤ 0) | none => false) := rfl
        have hgx := gtLx_ok P.okr ex a.y.o
        replace hG := Lib.hid hG
        clear hu
        clear hyx
        have b0 := P.S.c 1 0 rfl rfl
        have b1 := P.S.c 1 1 rfl rfl
        have b2 := P.S.c 1 2 rfl rfl
        have b3 := P.S.c 1 3 rfl rfl
        have b4 := P.S.c 1 4 rfl rfl
        have b5 := P.S.c 1 5 rfl rfl
        go_wp2_with fail
        (with_reducible refine (hG.out).mono ?_)
        rintro e w2 ⟨rfl, hb⟩
        clear a0 a1 a2 a3
        clear b0 b1 b2 b3 b4 b5
        replace P := P.below hb
        generalize gtR Rk.its ex a.y.o = G at *
        obtain ⟨X, hX⟩ : ∃ X, gtLx G = X := ⟨_, rfl⟩
        rw [hX] at hgx ⊢
        replace hgx := hgx.below hb
        clear hb hG z0
        have hb3 := below_new' w2 (.cells #[.int .i64 X.y.o, .int .i64 X.y.s, .int .i64 X.y.a, .bool X.y.ov, .slice X.A X.y.adj.length X.c, .slice X.B X.y.pre.length X.d] 32)
        have hbx := Box.new' w2 #[.int .i64 X.y.o, .int .i64 X.y.s, .int .i64 X.y.a, .bool X.y.ov, .slice X.A X.y.adj.length X.c, .slice X.B X.y.pre.length X.d] 32 w2.heap.size (lxL X) rfl rfl
        have hgx3 := hgx.below hb3
        have P3 := P.below hb3
        clear P hgx hb3
        cases G with
        | none =>
          have hs0 : spB Rk ex a.y = false := hgs
          have hu3 : Hid (F (k + 1) = Rk) := show _ = _ by rw [hu2.out, if_neg (by rw [hs0]; simp)]
          have P9 := Lib.hid P3.same
          clear hs0 hgs hu2 P3 hbx hgx3
          go_wp2_with fail
          go_round
          case rel => exact ⟨k + 1, _, c', B', d', by go_num, by omega, by rw [hu3.out]; exact P9.out⟩
          case measure => simp [intOf]; omega
        | some s =>
          obtain rfl : s.x = X := hX
          have NW := rnewer_any _ _ _ s.x.y a.y hgx3 (ha.out.below P3.S.b)
          have hoz : Hid (spB Rk ex a.y = decide (newI s.x.y a.y ≤ 0)) := hgs
          generalize newI s.x.y a.y = z at *
          generalize s.x = X at *
          replace NW := Lib.hid NW
          have b0 := P3.S.c 1 0 rfl rfl
          have b1 := P3.S.c 1 1 rfl rfl
          have b2 := P3.S.c 1 2 rfl rfl
          have b3 := P3.S.c 1 3 rfl rfl
          have b4 := P3.S.c 1 4 rfl rfl
          have b5 := P3.S.c 1 5 rfl rfl
          have y0 := hbx.c 0 rfl
          have y1 := hbx.c 1 rfl
          have y2 := hbx.c 2 rfl
          have y3 := hbx.c 3 rfl
          have y4 := hbx.c 4 rfl
          have y5 := hbx.c 5 rfl
          go_wp2_with fail
          (with_reducible refine (NW.out).mono ?_)
          rintro e w4 ⟨rfl, hb⟩
          clear b0 b1 b2 b3 b4 b5
          clear y0 y1 y2 y3 y4 y5 hbx hgx3 NW
          replace P3 := P3.below hb
          clear hb
          rcases hz : decide (z ≤ 0) with _ | _
          · have hu3 : Hid (F (k + 1) = Rk) := show _ = _ by rw [hu2.out, if_neg (by rw [hoz.out, hz]; simp)]
            have P9 := Lib.hid P3.same
            clear hu2 P3 hoz hgs
            go_wp2_with fail
            go_round
            case rel => exact ⟨k + 1, _, c', B', d', by go_num, by omega, by rw [hu3.out]; exact P9.out⟩
            case measure => simp [intOf]; omega
          · have hu3 : Hid (F (k + 1) = ⟨Rk.iv, Rk.now, Rk.ls, wo ex a.y.o Rk.its⟩) := show _ = _ by rw [hu2.out, if_pos (by rw [hoz.out, hz])]
            have hW := Lib.hid (rwithout_any w4 B' Rk.its.length d' Rk.its P3.rdB rfl (by omega) ex a.y.o)
            clear hu2 hoz hgs
            have a0 := P3.S.c 0 0 rfl rfl
            have a1 := P3.S.c 0 1 rfl rfl
            have a2 := P3.S.c 0 2 rfl rfl
            have a3 := P3.S.c 0 3 rfl rfl
            have b0 := P3.S.c 1 0 rfl rfl
            have b1 := P3.S.c 1 1 rfl rfl
            have b2 := P3.S.c 1 2 rfl rfl
            have b3 := P3.S.c 1 3 rfl rfl
            have b4 := P3.S.c 1 4 rfl rfl
            have b5 := P3.S.c 1 5 rfl rfl
            go_wp2_with fail
            (with_reducible refine (hW.out).mono ?_)
            rintro e w5 ⟨B5, d5, rfl, ho5, hb⟩
            have T := P3.S.call hb
            have g3 := T.c 0 3 rfl rfl
            have f3 := T.f 0 3 rfl rfl
            have P9 := Lib.hid (P3.less hb ho5)
            clear T P3 ho5 hb hW
            clear a0 a1 a2 a3
            clear b0 b1 b2 b3 b4 b5
            go_wp2_with fail
            go_round
            case rel => exact ⟨k + 1, _, c', B5, d5, by go_num, by omega, by rw [hu3.out]; exact P9.out⟩
            case measure => simp [intOf]; omega
    · obtain rfl : n = k := by omega
      have hkr : ¬ n < Rk.ls.length := by omega
      have S9 := (P.S.keepBoxes [(w.heap.size + 2, [.int .i64 0, .int .i64 0, .slice none 0 0, .slice none 0 0])] (by simp)).set4 (.int .i64 Rk.iv) (.int .i64 Rk.now) (.slice A' Rk.ls.length c') (.slice B' Rk.its.length d') (by omega) (by simp)
      have l9 := (P.la.set4 (g := w.heap.size + 2) (by omega) (.int .i64 Rk.iv) (.int .i64 Rk.now) (.slice A' Rk.ls.length c') (.slice B' Rk.its.length d')).fin (base' := w.heap.size) (by omega) rfl
      have i9 := (P.it.set4 (g := w.heap.size + 2) (by omega) (.int .i64 Rk.iv) (.int .i64 Rk.now) (.slice A' Rk.ls.length c') (.slice B' Rk.its.length d')).fin (base' := w.heap.size) (by omega) rfl
      have hf9 : RfPost w A c B d R (F n) (.returned (rfV Rk A' Rk.ls.length c' B' Rk.its.length d')) ((((wr.setCell ⟨w.heap.size + 2, 0, none⟩ (.int .i64 Rk.iv)).setCell ⟨w.heap.size + 2, 1, none⟩ (.int .i64 Rk.now)).setCell ⟨w.heap.size + 2, 2, none⟩ (.slice A' Rk.ls.length c')).setCell ⟨w.heap.size + 2, 3, none⟩ (.slice B' Rk.its.length d')) := by rw [hRk]; exact ⟨A', c', B', d', rfl, l9, i9, S9.b⟩
      replace hf9 := Lib.hid hf9
      have a0 := P.S.c 0 0 rfl rfl
      have a1 := P.S.c 0 1 rfl rfl
      have a2 := P.S.c 0 2 rfl rfl
      have a3 := P.S.c 0 3 rfl rfl
      have r0 := P.S.c 2 0 rfl rfl
      have r1 := P.S.c 2 1 rfl rfl
      have r2 := P.S.c 2 2 rfl rfl
      have r3 := P.S.c 2 3 rfl rfl
      have f0 := P.S.f 2 0 rfl rfl
      have f1 := P.S.f 2 1 rfl rfl
      have f2 := P.S.f 2 2 rfl rfl
      have f3 := P.S.f 2 3 rfl rfl
      have k0 := S9.c 0 0 rfl rfl
      have k1 := S9.c 0 1 rfl rfl
      have k2 := S9.c 0 2 rfl rfl
      have k3 := S9.c 0 3 rfl rfl
      clear l9 i9 P hRk hln hlk
      go_wp2_with fail
      exact bodyPost_ret (v := rfV Rk A' Rk.ls.length c' B' Rk.its.length d') (by simp [results, Try.results33, go_sem, k0, k1, k2, k3]) rfl hf9.out

end Go.Proofs.Ytgbcnglagnlmhaa

namespace Go.Proofs.Ytgbcnglagnlmhaa
set_option linter.unusedVariables false
open Go.RowKit Go.Maps Go.Sort

theorem own_blk' {w : World} {base : Nat} {e : TypeId} {size : Nat} {v : Value} {n : Nat} {xs : List Value} (h : w.ownsRow base e size v n xs) {g : Nat} (hg : w.heap.size ≤ g) : v.ownBlock ≠ some g := fun e2 => by
  rcases h.2 with ⟨rfl, _⟩ | ⟨k, cap, cur, rfl, hk, _⟩
  · cases e2
  · simp only [Value.ownBlock, Option.some.injEq] at e2
    have := (h.lt k rfl).2
    omega
def gtP (q : Int) (i : Int) : Bool := decide (q < i)
def upR (R : RF) (q : Int) : RF := ⟨(dnF R q).iv, (dnF R q).now, ins (gtP q) (dnF R q).ls q, (dnF R q).its⟩
noncomputable def upF (R : RF) (q : Int) (l : List Lx) : RF := l.foldl (fun R a => offF R q a) (upR R q)
def insD (q : Int) (ls : List Int) (k : Nat) : List Int := insK (gtP q) ls q k

/-- Within the first loop of Up. -/
structure U1At (w wr : World) (R1 : RF) (A1 : Option Addr) (c1 : Nat) (B1 : Option Addr) (d1 : Nat) (AL : Option Addr) (l : List Lx) (V7 : Value) (L7 : List Int) : Prop where
  S : St w wr [(w.heap.size, rfC R1 A1 c1 B1 d1), (w.heap.size + 1, [.int .i64 0, .int .i64 0, .slice none 0 0, .slice none 0 0])] [(AL, lxV l)]
  o1 : wr.ownsRow (w.heap.size + 2) 3 1 (.slice A1 R1.ls.length c1) R1.ls.length (R1.ls.map encZ)
  o2 : wr.ownsRow (w.heap.size + 2) 51 8 (.slice B1 R1.its.length d1) R1.its.length (itV R1.its)
  o7 : wr.ownsRow (w.heap.size + 2) 3 1 V7 L7.length (L7.map encZ)
  ap : V7.ownBlock = none ∨ V7.ownBlock ≠ (Value.slice A1 R1.ls.length c1).ownBlock
section
variable {w wr w' : World} {R1 : RF} {A1 : Option Addr} {c1 : Nat} {B1 : Option Addr} {d1 : Nat} {AL : Option Addr} {l : List Lx} {V7 V' : Value} {L7 : List Int} {z : Int}
theorem U1At.below (h : U1At w wr R1 A1 c1 B1 d1 AL l V7 L7) (hb : Below wr.heap.size wr w') : U1At w w' R1 A1 c1 B1 d1 AL l V7 L7 := ⟨h.S.call hb, own_below h.o1 hb, own_below h.o2 hb, own_below h.o7 hb, h.ap⟩
theorem U1At.size (h : U1At w wr R1 A1 c1 B1 d1 AL l V7 L7) : w.heap.size + 2 ≤ wr.heap.size := (h.S.box 1 rfl).lt (by simp)
theorem U1At.app (h : U1At w wr R1 A1 c1 B1 d1 AL l V7 L7) (ho : w'.ownsRow (w.heap.size + 2) 3 1 V' (L7.length + 1) (L7.map encZ ++ [.int .i64 z])) (hb : Below (w.heap.size + 2) wr w') (hg : wr.grownBy w' V7.ownBlock) (hv : V'.ownBlock = V7.ownBlock ∨ V'.ownBlock = some wr.heap.size) :
    U1At w w' R1 A1 c1 B1 d1 AL l V' (L7 ++ [z]) := by
  have ap2 : (Value.slice A1 R1.ls.length c1).ownBlock = none ∨ (Value.slice A1 R1.ls.length c1).ownBlock ≠ V7.ownBlock := by
    rcases h.ap with e | e
    · cases h2 : (Value.slice A1 R1.ls.length c1).ownBlock with
      | none => exact .inl rfl
      | some k => rw [e]; exact .inr (by simp)
    · exact .inr fun e2 => e e2.symm
  refine ⟨h.S.upto hb (by omega) (by simp), own_rowNe h.o1 hg ap2, own_rowNe h.o2 hg (own_ne h.o2 h.o7 (by decide)), by simpa using ho, ?_⟩
  rcases hv with e | e
  · rw [e]; exact h.ap
  · rw [e]; exact .inr fun e2 => own_blk' h.o1 (Nat.le_refl _) e2.symm
end
/-- Within the second loop. -/
structure U2At (w wr : World) (AL : Option Addr) (l : List Lx) (R : RF) (A : Option Addr) (c : Nat) (B : Option Addr) (d : Nat) : Prop where
  S : St w wr [(w.heap.size, rfC R A c B d), (w.heap.size + 1, [.int .i64 0, .int .i64 0, .slice none 0 0, .slice none 0 0])] [(AL, lxV l)]
  o1 : wr.ownsRow (w.heap.size + 2) 3 1 (.slice A R.ls.length c) R.ls.length (R.ls.map encZ)
  o2 : wr.ownsRow (w.heap.size + 2) 51 8 (.slice B R.its.length d) R.its.length (itV R.its)
  ok : ItsOk w R.its
section
variable {w wr w' : World} {AL : Option Addr} {l : List Lx} {R R' : RF} {A A' : Option Addr} {c c' : Nat} {B B' : Option Addr} {d d' : Nat}
theorem U2At.below (h : U2At w wr AL l R A c B d) (hb : Below wr.heap.size wr w') : U2At w w' AL l R A c B d := ⟨h.S.call hb, own_below h.o1 hb, own_below h.o2 hb, h.ok⟩
theorem U2At.size (h : U2At w wr AL l R A c B d) : w.heap.size + 2 ≤ wr.heap.size := (h.S.box 1 rfl).lt (by simp)
theorem U2At.to (h : U2At w wr AL l R A c B d) (hb : Below wr.heap.size wr w') (h1 : LsTo wr w' A c R.ls A' c' R'.ls) (h2 : ItTo wr w' B d R.its B' d' R'.its) (e2 : ItsOk w R'.its) :
    U2At w ((((w'.setCell ⟨w.heap.size, 0, none⟩ (.int .i64 R'.iv)).setCell ⟨w.heap.size, 1, none⟩ (.int .i64 R'.now)).setCell ⟨w.heap.size, 2, none⟩ (.slice A' R'.ls.length c')).setCell ⟨w.heap.size, 3, none⟩ (.slice B' R'.its.length d')) AL l R' A' c' B' d' := by
  refine ⟨(h.S.call hb).set4 _ _ _ _ (Nat.le_refl _) (by simp), own_set4 ?_ (by omega) _ _ _ _, own_set4 ?_ (by omega) _ _ _ _, e2⟩
  · rcases h1 with ⟨rfl, rfl, e⟩ | h1
    · rw [e]; exact own_below h.o1 hb
    · exact own_mono h1 h.size
  · rcases h2 with ⟨rfl, rfl, e⟩ | h2
    · rw [e]; exact own_below h.o2 hb
    · exact own_mono h2 h.size
theorem U1At.two {L7 : List Int} {A7 : Option Addr} {c7 : Nat} (h : U1At w wr R A c B d AL l (.slice A7 L7.length c7) L7) (hok : ItsOk w R.its) : U2At w (wr.setCell ⟨w.heap.size, 2, none⟩ (.slice A7 L7.length c7)) AL l ⟨R.iv, R.now, L7, R.its⟩ A7 c7 B d :=
  ⟨h.S.set 0 2 _ rfl (by simp) (Nat.le_refl _) (by simp) _ rfl, own_set1 h.o7 (by omega) _ _, own_set1 h.o2 (by omega) _ _, hok⟩
end

theorem own_ik {w : World} {base b off n c : Nat} {l : List Int} (h : w.ownsRow base 3 1 (.slice (some ⟨b, off, none⟩) n c) n (l.map encZ)) {k : Nat} {y : Int} (hy : l[k]? = some y) : w.cell? ⟨b, off + k, none⟩ = some (.int .i64 y) := by
  have hk : k < l.length := (List.getElem?_eq_some_iff.1 hy).1
  obtain ⟨b', off', e, hz⟩ := rd_at (own_slice h) (by simp only [List.length_map]; omega)
  injection e with e
  injection e with e1 e2 e3
  subst e1 e2
  exact hz k _ (by rw [List.getElem?_map, hy]; rfl)
theorem gtP_def (q i : Int) : gtP q i = decide (q < i) := rfl
theorem insD_zero (q : Int) (ls : List Int) : insD q ls 0 = [] := by unfold insD insK; simp
theorem upK_succ (R : RF) (q : Int) (l : List Lx) (k : Nat) (hk : k < l.length) : upF R q (l.take (k + 1)) = offF (upF R q (l.take k)) q l[k] := by
  unfold upF; exact fold_snoc (fun R a => offF R q a) _ l k hk
theorem upK_len (R : RF) (q : Int) (l : List Lx) : (upF R q l).its.length ≤ R.its.length + l.length := by
  have : ∀ (l : List Lx) (Z : RF), (l.foldl (fun R a => offF R q a) Z).its.length ≤ Z.its.length + l.length := fun l => by
    induction l with
    | nil => intro Z; simp
    | cons a r ih => intro Z; have := ih (offF Z q a); have := offF_len Z q a; simp only [List.foldl_cons, List.length_cons]; omega
  have h := this l (upR R q)
  have h2 : (upR R q).its.length ≤ R.its.length := wo_le q (-1) R.its
  unfold upF
  omega
set_option maxRecDepth 100000 in
set_option maxHeartbeats 6400000 in
theorem rup_any (w : World) (A : Option Addr) (c : Nat) (B : Option Addr) (d : Nat) (R : RF) (hA : Rd w A (R.ls.map encZ)) (hB : Rd w B (itV R.its)) (hx : ItsOk w R.its) (AL : Option Addr) (m cL : Nat) (l : List Lx) (hL : Rd w AL (lxV l)) (hm : l.length = m) (hlx : ∀ s ∈ l, LxOk w s) (hn : R.its.length + m ≤ 900000) (hl : R.ls.length ≤ 900000) (q : Int) :
    Calls Try.prog 28 #[rfV R A R.ls.length c B R.its.length d, .int .i64 q, .slice AL m cL] w (RfPost w A c B d R (upF R q l)) := by
  have S := ((((St.start w).read hL).new' #[.int .i64 R.iv, .int .i64 R.now, .slice A R.ls.length c, .slice B R.its.length d] 44 w.heap.size _ rfl rfl).new' #[.int .i64 0, .int .i64 0, .slice none 0 0, .slice none 0 0] 44 (w.heap.size + 1) _ (by simp) rfl)
  have DN := fun W (hb : Below w.heap.size w W) => rdown_own W A c B d R (hA.below hb) (hB.below hb) (by omega) (by omega) q
  replace DN := Lib.hid DN
  have hok1 : ItsOk w (dnF R q).its := fun s hs => hx s (List.mem_filter.1 hs).1
  have hl1 : (dnF R q).ls.length ≤ 900000 := Nat.le_trans (List.length_filter_le _ _) hl
  have huk := fun k hk => upK_succ R q l k hk
  have hul := fun k => upK_len R q (l.take k)
  have hu0 : upF R q (l.take 0) = ⟨(dnF R q).iv, (dnF R q).now, ins (gtP q) (dnF R q).ls q, (dnF R q).its⟩ := rfl
  have hu9 : upF R q l = upF R q (l.take m) := by rw [← hm, List.take_length]
  rw [hu9]
  obtain ⟨R1, hR1⟩ : ∃ R1, dnF R q = R1 := ⟨_, rfl⟩
  rw [hR1] at hok1 hl1 hu0
  simp only [hR1] at DN
  obtain ⟨U, hU⟩ : ∃ U, (fun k => upF R q (l.take k)) = U := ⟨_, rfl⟩
  have hUk : ∀ k, upF R q (l.take k) = U k := fun k => by rw [← hU]
  simp only [hUk] at huk hul hu0 ⊢
  clear hR1 hU hUk hu9 hA hB hx
  have hi1 := fun k hk => insK_new (p := gtP q) (l := R1.ls) q (k := k) hk
  have hi2 := fun k hk => insK_old (p := gtP q) (l := R1.ls) q (k := k) hk
  have hiA := insK_all (p := gtP q) (l := R1.ls) q
  have hiL := fun k => insK_len (gtP q) R1.ls q k
  have han := fun k hk => any_snoc (gtP q) R1.ls k hk
  have hz0 := insD_zero q R1.ls
  have ha0 : (R1.ls.take 0).any (gtP q) = false := rfl
  obtain ⟨I, hI⟩ : ∃ I, insD q R1.ls = I := ⟨_, rfl⟩
  have hIk : ∀ k, insK (gtP q) R1.ls q k = I k := fun k => by rw [← hI]; rfl
  rw [hI] at hz0
  simp only [hIk] at hi1 hi2 hiA hiL
  clear hI hIk
  replace hok1 := Lib.hid hok1
  replace huk := Lib.hid huk
  replace hul := Lib.hid hul
  replace hu0 := Lib.hid hu0
  replace hi1 := Lib.hid hi1
  replace hi2 := Lib.hid hi2
  replace hiA := Lib.hid hiA
  replace hiL := Lib.hid hiL
  replace han := Lib.hid han
  replace hz0 := Lib.hid hz0
  replace ha0 := Lib.hid ha0
  replace hm := Lib.hid hm
  replace hlx := Lib.hid hlx
  have a0 := S.c 1 0 rfl rfl
  have a1 := S.c 1 1 rfl rfl
  have a2 := S.c 1 2 rfl rfl
  have a3 := S.c 1 3 rfl rfl
  go_enter Try.func28, Try.ntmps28
  go_wp2_with fail
  (with_reducible refine (DN.out _ S.b).mono ?_)
  rintro e w1 ⟨A1, c1, B1, d1, rfl, o1, o2, hb⟩
  clear a0 a1 a2 a3
  clear DN
  replace S := S.call hb
  have f0 := S.f 1 0 rfl rfl
  have f1 := S.f 1 1 rfl rfl
  have f2 := S.f 1 2 rfl rfl
  have f3 := S.f 1 3 rfl rfl
  have a0 := S.c 1 0 rfl rfl
  have a1 := S.c 1 1 rfl rfl
  have a2 := S.c 1 2 rfl rfl
  have a3 := S.c 1 3 rfl rfl
  have S1 := (S.keepBoxes [(w.heap.size, [.int .i64 R.iv, .int .i64 R.now, .slice A R.ls.length c, .slice B R.its.length d]), (w.heap.size + 1, [.int .i64 0, .int .i64 0, .slice none 0 0, .slice none 0 0])] (by simp)).set4 (.int .i64 R1.iv) (.int .i64 R1.now) (.slice A1 R1.ls.length c1) (.slice B1 R1.its.length d1) (Nat.le_refl _) (by simp)
  have P0 : U1At w _ R1 A1 c1 B1 d1 AL l (.slice none (I 0).length 0) (I 0) := ⟨S1, own_mono (own_set4 o1 (g := w.heap.size) (by simp; omega) (.int .i64 R1.iv) (.int .i64 R1.now) (.slice A1 R1.ls.length c1) (.slice B1 R1.its.length d1)) (by simp), own_mono (own_set4 o2 (g := w.heap.size) (by simp; omega) (.int .i64 R1.iv) (.int .i64 R1.now) (.slice A1 R1.ls.length c1) (.slice B1 R1.its.length d1)) (by simp), by rw [hz0.out]; exact World.ownsRow_nil _ _ _ _, .inl rfl⟩
  clear S S1 o1 o2 hb
  go_wp2_with fail
  clear a0 a1 a2 a3
  clear f0 f1 f2 f3
  generalize World.setCell _ _ _ = w2 at *
  go_loopw [7, 8, 9] (fun v7 v8 v9 wr => ∃ (k : Nat) (A7 : Option Addr) (c7 : Nat), v9 = .int .i64 k ∧ v8 = .bool ((R1.ls.take k).any (gtP q)) ∧ v7 = .slice A7 (I k).length c7 ∧ k ≤ R1.ls.length ∧ U1At w wr R1 A1 c1 B1 d1 AL l (.slice A7 (I k).length c7) (I k)) (fun _ _ v9 _ => R1.ls.length - (intOf v9).toNat)
  case atStart => exact ⟨0, none, 0, rfl, by rw [ha0.out], by rw [hz0.out]; rfl, by omega, P0⟩
  case round =>
    clear P0 ha0 hz0
    obtain ⟨k, A7, c7, rfl, rfl, rfl, hk, P⟩ := hrel
    have hil := hiL.out k
    have a0 := P.S.c 0 0 rfl rfl
    have a1 := P.S.c 0 1 rfl rfl
    have a2 := P.S.c 0 2 rfl rfl
    have a3 := P.S.c 0 3 rfl rfl
    by_cases hkn : k < R1.ls.length
    · obtain ⟨bz, offz, rfl, hz⟩ := rd_at (own_slice P.o1) (by simp only [List.length_map]; omega)
      have hyk := List.getElem?_eq_getElem hkn
      clear hz
      have e1 := fun h1 h2 => hi1.out k hkn h1 h2
      have e2 := fun h => hi2.out k hkn h
      have e3 := han.out k hkn
      generalize R1.ls[k] = y at *
      have z0 := own_ik P.o1 hyk
      have hgy : gtP q y = decide (q < y) := rfl
      generalize hb : (R1.ls.take k).any (gtP q) = bt at *
      have hs2 := P.size
      have f1 : (I k).length + 1 ≤ maxLen := by simp only [maxLen]; omega
      have f2 : ((I k).length + 1) * 8 ≤ 140737488355328 := big8 (by omega)
      have f3 : (I k).length + 1 + 1 ≤ maxLen := by simp only [maxLen]; omega
      have f4 : ((I k).length + 1 + 1) * 8 ≤ 140737488355328 := big8 (by omega)
      replace e3 := Lib.hid e3
      replace e1 := Lib.hid e1
      replace e2 := Lib.hid e2
      replace hb := Lib.hid hb
      replace hyk := Lib.hid hyk
      have hcase : (bt = false ∧ decide (q < y) = true) ∨ (bt = true ∨ (bt = false ∧ decide (q < y) = false)) := by
        cases bt <;> cases decide (q < y) <;> simp
      rcases hcase with ⟨rfl, hd⟩ | hd
      · -- the link, and then y
        have e4 : Hid (I (k + 1) = I k ++ [q] ++ [y]) := e1.out rfl (by rw [hgy, hd])
        have e5 : Hid ((R1.ls.take (k + 1)).any (gtP q) = true) := show _ = _ by rw [e3.out, hgy, hd]; rfl
        have Py := P.below (below_new' wr (.cells #[.int .i64 q] 3))
        have rd0 := Rd.lit wr #[.int .i64 q] 3
        have hsy := Py.size
        clear e1 e2 e3 hgy P
        go_upto_region 9 with (at_builtin; refine wpList_appB rfl intT (.tmp 32) (.tmp 34) rfl (w.heap.size + 2) rfl Py.o7 (m := 1) rfl (by simp) rd0 (encZ_one [q]) f1 f2 hsy ((I k).length + 1) _ rfl rfl ?_; intro v6 w6 o6 hbel6 hg6 hv6; obtain ⟨A6, c6, rfl, -⟩ := own_rd o6)
        have P6 := Py.app o6 hbel6 hg6 hv6
        clear Py rd0 hsy o6 hbel6 hg6 hv6 hd z0
        clear a0 a1 a2 a3
        have a0 := P6.S.c 0 0 rfl rfl
        have a1 := P6.S.c 0 1 rfl rfl
        have a2 := P6.S.c 0 2 rfl rfl
        have a3 := P6.S.c 0 3 rfl rfl
        have z1 := own_ik P6.o1 hyk.out
        have Pz := P6.below (below_new' w6 (.cells #[.int .i64 y] 3))
        have rd0 := Rd.lit w6 #[.int .i64 y] 3
        have hsy := Pz.size
        have o7 : _ := Pz.o7
        rw [List.length_append, List.length_singleton] at o7
        clear P6
        go_wp2_with (at_builtin; refine wpList_appB rfl intT (.tmp 36) (.tmp 42) rfl (w.heap.size + 2) rfl o7 (m := 1) rfl (by simp) rd0 (encZ_one [y]) f3 f4 hsy ((I k).length + 1 + 1) _ rfl rfl ?_; intro v8 w8 o8 hbel8 hg8 hv8; obtain ⟨A8, c8, rfl, -⟩ := own_rd o8)
        have P9 := Pz.app (by rw [List.length_append, List.length_singleton]; exact o8) hbel8 hg8 hv8
        have l1 : (I (k + 1)).length = (I k).length + 1 + 1 := by rw [e4.out]; simp
        replace l1 := Lib.hid l1
        replace P9 := Lib.hid P9
        clear Pz rd0 hsy o8 hbel8 hg8 hv8 o7 z1
        clear a0 a1 a2 a3
        go_wp2_with fail
        go_round
        case rel => exact ⟨k + 1, A8, c8, by go_num, by rw [e5.out], by rw [l1.out], by omega, by rw [l1.out, e4.out]; exact P9.out⟩
        case measure => simp [intOf]; omega
      · have e4 : Hid (I (k + 1) = I k ++ [y]) := e2.out (by rcases hd with h | ⟨h, h2⟩; exact .inl h; exact .inr (by rw [hgy, h2]))
        have e5 : Hid ((R1.ls.take (k + 1)).any (gtP q) = bt) := show _ = _ by
          rw [e3.out, hgy]
          rcases hd with h | ⟨h, h2⟩
          · rw [h]; rfl
          · rw [h, h2]; rfl
        have Pz := P.below (below_new' wr (.cells #[.int .i64 y] 3))
        have rd0 := Rd.lit wr #[.int .i64 y] 3
        have hsy := Pz.size
        have l1 : (I (k + 1)).length = (I k).length + 1 := by rw [e4.out]; simp
        replace l1 := Lib.hid l1
        clear e1 e2 e3 hgy P hb
        rcases hd with rfl | ⟨rfl, hd⟩
        all_goals
          go_wp2_with (at_builtin; refine wpList_appB rfl intT (.tmp 36) (.tmp 42) rfl (w.heap.size + 2) rfl Pz.o7 (m := 1) rfl (by simp) rd0 (encZ_one [y]) f1 f2 hsy ((I k).length + 1) _ rfl rfl ?_; intro v8 w8 o8 hbel8 hg8 hv8; obtain ⟨A8, c8, rfl, -⟩ := own_rd o8)
          have P9 := Lib.hid (Pz.app o8 hbel8 hg8 hv8)
          clear Pz rd0 hsy o8 hbel8 hg8 hv8
          clear a0 a1 a2 a3
          go_wp2_with fail
          go_round
          case rel => exact ⟨k + 1, A8, c8, by go_num, by rw [e5.out], by rw [l1.out], by omega, by rw [l1.out, e4.out]; exact P9.out⟩
          case measure => simp [intOf]; omega
    · have hkk : k = R1.ls.length := by omega
      subst hkk
      have htk : R1.ls.take R1.ls.length = R1.ls := List.take_length
      rw [htk]
      have hmem := hiA.out
      have hng : ¬ R1.ls.length < R1.ls.length := by omega
      clear hi1 hi2 hiA hiL han htk hkn
      cases hput : R1.ls.any (gtP q)
      case' true =>
        rw [if_pos hput] at hmem
        have f0 := P.S.f 0 0 rfl rfl
        have f1 := P.S.f 0 1 rfl rfl
        have f2 := P.S.f 0 2 rfl rfl
        have f3 := P.S.f 0 3 rfl rfl
        have P2 := P.two hok1.out
        have P2' : Hid (U2At w _ AL l (U 0) A7 c7 B1 d1) := show U2At w _ AL l (U 0) A7 c7 B1 d1 from by rw [hu0.out, hmem]; exact P2
        clear P2 hmem hu0 hput
        go_wp2_with fail
        clear P
        clear a0 a1 a2 a3
        clear f0 f1 f2 f3
        generalize wr.setCell _ _ = w5 at *
        generalize (I R1.ls.length).length = n7 at *
      case' false =>
        rw [if_neg (by rw [hput]; simp)] at hmem
        have Py := P.below (below_new' wr (.cells #[.int .i64 q] 3))
        have rd0 := Rd.lit wr #[.int .i64 q] 3
        have hsy := Py.size
        have f1 : (I R1.ls.length).length + 1 ≤ maxLen := by simp only [maxLen]; omega
        have f2 : ((I R1.ls.length).length + 1) * 8 ≤ 140737488355328 := big8 (by omega)
        clear P hput
        replace hmem := Lib.hid hmem
        go_upto_region 13 with (at_builtin; refine wpList_appB rfl intT (.tmp 46) (.tmp 48) rfl (w.heap.size + 2) rfl Py.o7 (m := 1) rfl (by simp) rd0 (encZ_one [q]) f1 f2 hsy ((I R1.ls.length).length + 1) _ rfl rfl ?_; intro v6 w6 o6 hbel6 hg6 hv6; obtain ⟨A6, c6, rfl, -⟩ := own_rd o6)
        have P6 := Py.app o6 hbel6 hg6 hv6
        clear Py rd0 hsy o6 hbel6 hg6 hv6
        clear a0 a1 a2 a3
        have a0 := P6.S.c 0 0 rfl rfl
        have a1 := P6.S.c 0 1 rfl rfl
        have a2 := P6.S.c 0 2 rfl rfl
        have a3 := P6.S.c 0 3 rfl rfl
        have f0 := P6.S.f 0 0 rfl rfl
        have f1 := P6.S.f 0 1 rfl rfl
        have f2 := P6.S.f 0 2 rfl rfl
        have f3 := P6.S.f 0 3 rfl rfl
        have ll : (I R1.ls.length ++ [q]).length = (I R1.ls.length).length + 1 := by simp
        have P7 : U1At w w6 R1 A1 c1 B1 d1 AL l (.slice A6 (I R1.ls.length ++ [q]).length c6) (I R1.ls.length ++ [q]) := by rw [ll]; exact P6
        have P2 := P7.two hok1.out
        have P2' : Hid (U2At w _ AL l (U 0) A6 c6 B1 d1) := show U2At w _ AL l (U 0) A6 c6 B1 d1 from by rw [hu0.out, hmem.out]; exact P2
        clear P2 hmem hu0 P7 P6
        rw [ll] at P2'
        clear ll
        go_wp2_with fail
        clear a0 a1 a2 a3
        clear f0 f1 f2 f3
        generalize w6.setCell _ _ = w5 at *
      all_goals
        go_loopw [10] (fun v10 wr => ∃ (k : Nat) (A' : Option Addr) (c' : Nat) (B' : Option Addr) (d' : Nat), v10 = .int .i64 k ∧ k ≤ m ∧ Hid (U2At w wr AL l (U k) A' c' B' d')) (fun v10 _ => m - (intOf v10).toNat)
        case atStart => exact ⟨0, _, _, _, _, rfl, by omega, P2'⟩
        case round =>
          clear P2'
          obtain ⟨k, A', c', B', d', rfl, hk, P⟩ := hrel
          replace P := P.out
          obtain ⟨Rk, hRk⟩ : ∃ z, U k = z := ⟨_, rfl⟩
          rw [hRk] at P
          have hln := hul.out k
          rw [hRk] at hln
          have hlt : (l.take k).length ≤ k := by simp; omega
          have hlen : Rk.its.length ≤ 900000 := by omega
          clear hln hlt
          by_cases hkm : k < m
          · have hkl : k < l.length := by rw [hm.out]; exact hkm
            have hu := huk.out k hkl
            rw [hRk] at hu
            obtain ⟨bl, ol, rfl⟩ := lx_form (P.S.r 0 rfl) (by omega)
            obtain ⟨s, hs⟩ : ∃ s, l[k] = s := ⟨_, rfl⟩
            obtain ⟨x0, x1, x2, x3, x4, x5⟩ := lx_cells (P.S.r 0 rfl) k hkl s hs
            have hsx := hlx.out s (by rw [← hs]; exact List.getElem_mem hkl)
            rw [hs] at hu
            replace hu := Lib.hid hu
            replace hRk := Lib.hid hRk
            clear hs
            have OFF := fun W (hb : Below wr.heap.size wr W) => roffer_any W A' c' B' d' Rk (own_slice (P.below hb).o1) (own_slice (P.below hb).o2) (P.ok.below (P.below hb).S.b) hlen q s (hsx.below (P.below hb).S.b)
            replace OFF := Lib.hid OFF
            go_upto_region 17 with fail
            have Pd := P.below (Below.refl _ _).drew
            have hbd : Below wr.heap.size wr wr.drew := (Below.refl _ _).drew
            have y0 : wr.drew.cell? _ = _ := x0
            have y1 : wr.drew.cell? _ = _ := x1
            have y2 : wr.drew.cell? _ = _ := x2
            have y3 : wr.drew.cell? _ = _ := x3
            have y4 : wr.drew.cell? _ = _ := x4
            have y5 : wr.drew.cell? _ = _ := x5
            have tok1 : True := trivial
            have a0 := Pd.S.c 0 0 rfl rfl
            have a1 := Pd.S.c 0 1 rfl rfl
            have a2 := Pd.S.c 0 2 rfl rfl
            have a3 := Pd.S.c 0 3 rfl rfl
            have e8 := offF_ok (q := q) Pd.ok hsx
            replace e8 := Lib.hid e8
            clear P x0 x1 x2 x3 x4 x5
            go_region_law
              (first
                | (clear tok1; rw [if_pos (by simp [Region.wanted])]; go_simp; (with_reducible refine (OFF.out _ hbd).mono ?_); rintro e wa ⟨A2, c2, B2, d2, rfl, t1, t2, hba⟩; have T := Pd.S.call hba; have f0 := T.f 0 0 rfl rfl; have f1 := T.f 0 1 rfl rfl; have f2 := T.f 0 2 rfl rfl; have f3 := T.f 0 3 rfl rfl; have g0 := T.c 0 0 rfl rfl; have g1 := T.c 0 1 rfl rfl; have g2 := T.c 0 2 rfl rfl; have g3 := T.c 0 3 rfl rfl; dsimp only))
            all_goals
              have P9 := Lib.hid (Pd.to hba t1 t2 e8.out)
              clear OFF T t1 t2 hba Pd hbd e8
              go_wp2_with fail
              go_round
              case rel => exact ⟨k + 1, A2, c2, B2, d2, by go_num, by omega, show U2At w _ _ l (U (k + 1)) A2 c2 B2 d2 from by rw [hu.out]; exact P9.out⟩
              case measure => simp [intOf]; omega
          · obtain rfl : m = k := by omega
            have hs2 := P.size
            have S9 := (P.S.keepBoxes [(w.heap.size + 1, [.int .i64 0, .int .i64 0, .slice none 0 0, .slice none 0 0])] (by simp)).set4 (.int .i64 Rk.iv) (.int .i64 Rk.now) (.slice A' Rk.ls.length c') (.slice B' Rk.its.length d') (by omega) (by simp)
            have l9 := own_mono (own_set4 P.o1 (g := w.heap.size + 1) (by omega) (.int .i64 Rk.iv) (.int .i64 Rk.now) (.slice A' Rk.ls.length c') (.slice B' Rk.its.length d')) (base := w.heap.size) (by omega)
            have i9 := own_mono (own_set4 P.o2 (g := w.heap.size + 1) (by omega) (.int .i64 Rk.iv) (.int .i64 Rk.now) (.slice A' Rk.ls.length c') (.slice B' Rk.its.length d')) (base := w.heap.size) (by omega)
            have hf9 : RfPost w A c B d R (U m) (.returned (rfV Rk A' Rk.ls.length c' B' Rk.its.length d')) ((((wr.setCell ⟨w.heap.size + 1, 0, none⟩ (.int .i64 Rk.iv)).setCell ⟨w.heap.size + 1, 1, none⟩ (.int .i64 Rk.now)).setCell ⟨w.heap.size + 1, 2, none⟩ (.slice A' Rk.ls.length c')).setCell ⟨w.heap.size + 1, 3, none⟩ (.slice B' Rk.its.length d')) := by rw [hRk]; exact ⟨A', c', B', d', rfl, .inr l9, .inr i9, S9.b⟩
            replace hf9 := Lib.hid hf9
            have a0 := P.S.c 0 0 rfl rfl
            have a1 := P.S.c 0 1 rfl rfl
            have a2 := P.S.c 0 2 rfl rfl
            have a3 := P.S.c 0 3 rfl rfl
            have r0 := P.S.c 1 0 rfl rfl
            have r1 := P.S.c 1 1 rfl rfl
            have r2 := P.S.c 1 2 rfl rfl
            have r3 := P.S.c 1 3 rfl rfl
            have f0 := P.S.f 1 0 rfl rfl
            have f1 := P.S.f 1 1 rfl rfl
            have f2 := P.S.f 1 2 rfl rfl
            have f3 := P.S.f 1 3 rfl rfl
            have k0 := S9.c 0 0 rfl rfl
            have k1 := S9.c 0 1 rfl rfl
            have k2 := S9.c 0 2 rfl rfl
            have k3 := S9.c 0 3 rfl rfl
            clear l9 i9 P hRk
            go_wp2_with fail
            exact bodyPost_ret (v := rfV Rk A' Rk.ls.length c' B' Rk.its.length d') (by simp [results, Try.results28, go_sem, k0, k1, k2, k3]) rfl hf9.out

end Go.Proofs.Ytgbcnglagnlmhaa

namespace Go.Proofs.Ytgbcnglagnlmhaa
set_option linter.unusedVariables false
open Go.RowKit Go.Maps Go.Sort

def duB (now : Int) (s : It) : Bool := decide (s.t ≤ now)
def plI (iv now : Int) (s : It) : It := if duB now s = true then ⟨s.q, s.x, now + iv⟩ else s
def plF (R : RF) : RF := ⟨R.iv, R.now, R.ls, R.its.map (plI R.iv R.now)⟩
def plS (R : RF) : List It := R.its.filter (duB R.now)
def RpollPost (w : World) (A : Option Addr) (c : Nat) (B : Option Addr) (d : Nat) (R : RF) (e : Ending) (w' : World) : Prop :=
  ∃ A' c' B' d' A2 c2, e = .returned (.tuple #[rfV (plF R) A' (plF R).ls.length c' B' (plF R).its.length d', .slice A2 (plS R).length c2]) ∧ LsTo w w' A c R.ls A' c' (plF R).ls ∧ ItTo w w' B d R.its B' d' (plF R).its ∧ w'.ownsRow w.heap.size 51 8 (.slice A2 (plS R).length c2) (plS R).length (itV (plS R)) ∧ Below w.heap.size w w'
theorem own_blk {w : World} {base : Nat} {e : TypeId} {size : Nat} {v : Value} {n : Nat} {xs : List Value} (h : w.ownsRow base e size v n xs) {g : Nat} (hg : w.heap.size ≤ g) : v.ownBlock ≠ some g := fun e2 => by
  rcases h.2 with ⟨rfl, _⟩ | ⟨k, cap, cur, rfl, hk, _⟩
  · cases e2
  · simp only [Value.ownBlock, Option.some.injEq] at e2
    have := (h.lt k rfl).2
    omega
abbrev itC (s : It) : Array Value := #[.int .i64 s.q, .int .i64 s.x.y.o, .int .i64 s.x.y.s, .int .i64 s.x.y.a, .bool s.x.y.ov, .slice s.x.A s.x.y.adj.length s.x.c, .slice s.x.B s.x.y.pre.length s.x.d, .int .i64 s.t]
/-- Within the loop of Poll: the box of the item at hand in block g. -/
structure PxAt (w wr : World) (iv now : Int) (A : Option Addr) (n c : Nat) (B : Option Addr) (m d : Nat) (vB : List Value) (V1 V2 : Value) (s1 s2 : List It) : Prop where
  S : St w wr [(w.heap.size + 1, [.int .i64 0, .int .i64 0, .slice none 0 0, .slice none 0 0]), (w.heap.size, [.int .i64 iv, .int .i64 now, .slice A n c, .slice B m d])] [(B, vB)]
  o1 : wr.ownsRow (w.heap.size + 2) 51 8 V1 s1.length (itV s1)
  o2 : wr.ownsRow (w.heap.size + 2) 51 8 V2 s2.length (itV s2)
  ap : V1.ownBlock = none ∨ V1.ownBlock ≠ V2.ownBlock
section
variable {w wr w' : World} {iv now : Int} {A : Option Addr} {n c : Nat} {B : Option Addr} {m d : Nat} {vB : List Value} {V1 V2 V' : Value} {s1 s2 : List It} {s : It} {g : Nat} {cs : List Value}
theorem PxAt.below (h : PxAt w wr iv now A n c B m d vB V1 V2 s1 s2) (hb : Below wr.heap.size wr w') : PxAt w w' iv now A n c B m d vB V1 V2 s1 s2 :=
  ⟨h.S.call hb, own_below h.o1 hb, own_below h.o2 hb, h.ap⟩
theorem PxAt.size (h : PxAt w wr iv now A n c B m d vB V1 V2 s1 s2) : w.heap.size + 2 ≤ wr.heap.size := (h.S.box 0 rfl).lt (by simp)
theorem PxAt.sent (h : PxAt w wr iv now A n c B m d vB V1 V2 s1 s2) (ho : w'.ownsRow (w.heap.size + 2) 51 8 V' (s1.length + 1) (itV s1 ++ itL s)) (hb : Below (w.heap.size + 2) wr w') (hg : wr.grownBy w' V1.ownBlock) (hv : V'.ownBlock = V1.ownBlock ∨ V'.ownBlock = some wr.heap.size) :
    PxAt w w' iv now A n c B m d vB V' V2 (s1 ++ [s]) s2 := by
  have ap2 : V2.ownBlock = none ∨ V2.ownBlock ≠ V1.ownBlock := by
    rcases h.ap with e | e
    · cases h2 : V2.ownBlock with
      | none => exact .inl rfl
      | some k => rw [e]; exact .inr (by simp)
    · exact .inr fun e2 => e e2.symm
  refine ⟨h.S.upto hb (by omega) (by simp), by rw [itV_append, List.length_append]; simpa [itV] using ho, own_rowNe h.o2 hg ap2, ?_⟩
  rcases hv with e | e
  · rw [e]; exact h.ap
  · rw [e]; exact .inr fun e2 => own_blk h.o2 (Nat.le_refl _) e2.symm
theorem PxAt.item (h : PxAt w wr iv now A n c B m d vB V1 V2 s1 s2) (ho : w'.ownsRow (w.heap.size + 2) 51 8 V' (s2.length + 1) (itV s2 ++ itL s)) (hb : Below (w.heap.size + 2) wr w') (hg : wr.grownBy w' V2.ownBlock) (hv : V'.ownBlock = V2.ownBlock ∨ V'.ownBlock = some wr.heap.size) :
    PxAt w w' iv now A n c B m d vB V1 V' s1 (s2 ++ [s]) := by
  refine ⟨h.S.upto hb (by omega) (by simp), own_rowNe h.o1 hg h.ap, by rw [itV_append, List.length_append]; simpa [itV] using ho, ?_⟩
  rcases hv with e | e
  · rw [e]; exact h.ap
  · rw [e]; exact .inr (own_blk h.o1 (Nat.le_refl _))
/-- A store into the box of the item at hand. -/
theorem PxAt.set (h : PxAt w wr iv now A n c B m d vB V1 V2 s1 s2) (hg : w.heap.size + 2 ≤ g) (n1 : V1.ownBlock ≠ some g) (n2 : V2.ownBlock ≠ some g) (j : Nat) (u : Value) : PxAt w (wr.setCell ⟨g, j, none⟩ u) iv now A n c B m d vB V1 V2 s1 s2 := by
  have hgr := grownBy_set wr g j u
  refine ⟨⟨h.S.b.setCell (p := ⟨g, j, none⟩) (by simp only; omega) u, fun i x hx => ?_, h.S.rd⟩, own_rowNe h.o1 hgr (.inr n1), own_rowNe h.o2 hgr (.inr n2), h.ap⟩
  refine (h.S.bx i x hx).far u ?_
  match i, hx with
  | 0, hx => simp at hx; subst hx; simp only; omega
  | 1, hx => simp at hx; subst hx; simp only; omega
end
theorem plS_snoc (now : Int) (l : List It) (k : Nat) (hk : k < l.length) : (l.take (k + 1)).filter (duB now) = (l.take k).filter (duB now) ++ (if duB now l[k] = true then [l[k]] else []) := by
  rw [List.take_succ_eq_append_getElem hk, List.filter_append]
  congr 1
  by_cases h : duB now l[k] = true
  · rw [if_pos h, List.filter_cons_of_pos h]; rfl
  · rw [if_neg h, List.filter_cons_of_neg h]; rfl
theorem plI_snoc (iv now : Int) (l : List It) (k : Nat) (hk : k < l.length) : (l.take (k + 1)).map (plI iv now) = (l.take k).map (plI iv now) ++ [plI iv now l[k]] := by
  rw [List.take_succ_eq_append_getElem hk, List.map_append]; rfl

set_option maxRecDepth 100000 in
set_option maxHeartbeats 6400000 in
theorem rpoll_any (w : World) (A : Option Addr) (c : Nat) (B : Option Addr) (d : Nat) (R : RF) (hB : Rd w B (itV R.its)) (hn : R.its.length ≤ 1000000) (h0 : 0 ≤ R.now) (h1 : R.now ≤ 1000000000000) (h2 : 0 ≤ R.iv) (h3 : R.iv ≤ 1000000) :
    Calls Try.prog 35 #[rfV R A R.ls.length c B R.its.length d] w (RpollPost w A c B d R) := by
  have hnew : Hid (∀ w' B' d' A2 c2, Below w.heap.size w w' → w'.ownsRow w.heap.size 51 8 (.slice B' (R.its.map (plI R.iv R.now)).length d') (R.its.map (plI R.iv R.now)).length (itV (R.its.map (plI R.iv R.now))) → w'.ownsRow w.heap.size 51 8 (.slice A2 (R.its.filter (duB R.now)).length c2) (R.its.filter (duB R.now)).length (itV (R.its.filter (duB R.now))) → RpollPost w A c B d R (.returned (.tuple #[.agg #[.int .i64 R.iv, .int .i64 R.now, .slice A R.ls.length c, .slice B' (R.its.map (plI R.iv R.now)).length d'], .slice A2 (R.its.filter (duB R.now)).length c2])) w') := fun w' B' d' A2 c2 hb h1 h2 =>
    ⟨A, c, B', d', A2, c2, rfl, .inl ⟨rfl, rfl, rfl⟩, .inr h1, h2, hb⟩
  have S := (((St.start w).read hB).new' #[.int .i64 R.iv, .int .i64 R.now, .slice A R.ls.length c, .slice B R.its.length d] 44 w.heap.size _ rfl rfl).new' #[.int .i64 0, .int .i64 0, .slice none 0 0, .slice none 0 0] 44 (w.heap.size + 1) _ (by simp) rfl
  obtain ⟨Q, hQ⟩ : ∃ Q, RpollPost w A c B d R = Q := ⟨_, rfl⟩
  rw [hQ] at hnew ⊢
  clear hQ
  obtain ⟨iv, now, ls, its⟩ := R
  simp only at *
  have hs1 := fun k hk => plS_snoc now its k hk
  have hs2 := fun k hk => plI_snoc iv now its k hk
  have he1 : its.filter (duB now) = (its.take its.length).filter (duB now) := by rw [List.take_length]
  have he2 : its.map (plI iv now) = (its.take its.length).map (plI iv now) := by rw [List.take_length]
  have hl1 : ∀ k, ((its.take k).filter (duB now)).length ≤ k := fun k => Nat.le_trans (List.length_filter_le _ _) (by simp; omega)
  have hl2 : ∀ k, ((its.take k).map (plI iv now)).length ≤ k := fun k => by simp; omega
  have z1 : (its.take 0).filter (duB now) = [] := rfl
  have z2 : (its.take 0).map (plI iv now) = [] := rfl
  obtain ⟨F1, hF1⟩ : ∃ F1, (fun k => (its.take k).filter (duB now)) = F1 := ⟨_, rfl⟩
  obtain ⟨F2, hF2⟩ : ∃ F2, (fun k => (its.take k).map (plI iv now)) = F2 := ⟨_, rfl⟩
  have hk1 : ∀ k, (its.take k).filter (duB now) = F1 k := fun k => by rw [← hF1]
  have hk2 : ∀ k, (its.take k).map (plI iv now) = F2 k := fun k => by rw [← hF2]
  rw [he1, he2] at hnew
  simp only [hk1, hk2] at hnew hs1 hs2 hl1 hl2 z1 z2
  clear he1 he2 hB hF1 hF2 hk1 hk2
  generalize ls.length = n at *
  obtain ⟨m, hlm⟩ : ∃ n, its.length = n := ⟨_, rfl⟩
  rw [hlm] at S hnew hn ⊢
  replace hlm := Lib.hid hlm
  replace hs1 := Lib.hid hs1
  replace hs2 := Lib.hid hs2
  replace hl1 := Lib.hid hl1
  replace hl2 := Lib.hid hl2
  have a0 := S.c 1 0 rfl rfl
  have a1 := S.c 1 1 rfl rfl
  have a2 := S.c 1 2 rfl rfl
  have a3 := S.c 1 3 rfl rfl
  go_enter Try.func35, Try.ntmps35
  go_wp2_with fail
  clear a0 a1 a2 a3
  generalize World.alloc (World.alloc w _) _ = w1 at *
  have P0 : PxAt w w1 iv now A n c B m d (itV its) (.slice none (F1 0).length 0) (.slice none (F2 0).length 0) (F1 0) (F2 0) :=
    ⟨S, by rw [z1]; exact World.ownsRow_nil _ _ _ _, by rw [z2]; exact World.ownsRow_nil _ _ _ _, .inl rfl⟩
  go_loopw [4, 5, 6] (fun v4 v5 v6 wr => ∃ (k : Nat) (A1 : Option Addr) (c1 : Nat) (A2 : Option Addr) (c2 : Nat), v6 = .int .i64 k ∧ v4 = .slice A1 (F1 k).length c1 ∧ v5 = .slice A2 (F2 k).length c2 ∧ k ≤ m ∧ PxAt w wr iv now A n c B m d (itV its) (.slice A1 (F1 k).length c1) (.slice A2 (F2 k).length c2) (F1 k) (F2 k)) (fun _ _ v6 _ => m - (intOf v6).toNat)
  case atStart => exact ⟨0, none, 0, none, 0, rfl, by rw [z1]; rfl, by rw [z2]; rfl, by omega, P0⟩
  case round =>
    clear S P0 z1 z2
    obtain ⟨k, A1, c1, A2, c2, rfl, rfl, rfl, hk, P⟩ := hrel
    by_cases hkm : k < m
    · have hkl : k < its.length := by rw [hlm.out]; exact hkm
      obtain ⟨ba, off, rfl⟩ := it_form (P.S.r 0 rfl) (by omega)
      obtain ⟨s, hs⟩ : ∃ s, its[k] = s := ⟨_, rfl⟩
      have e1 := hs1.out k hkl
      have e2 := hs2.out k hkl
      have q1 := hl1.out k
      have q2 := hl2.out k
      rw [hs] at e1 e2
      obtain ⟨x0, x1, x2, x3, x4, x5, x6, x7⟩ := it_cells (P.S.r 0 rfl) k hkl s hs
      replace e1 := Lib.hid e1
      replace e2 := Lib.hid e2
      clear hs
      have a0 := P.S.c 1 0 rfl rfl
      have a1 := P.S.c 1 1 rfl rfl
      have a2 := P.S.c 1 2 rfl rfl
      have a3 := P.S.c 1 3 rfl rfl
      have hx := Box.new' wr #[.int .i64 s.q, .int .i64 s.x.y.o, .int .i64 s.x.y.s, .int .i64 s.x.y.a, .bool s.x.y.ov, .slice s.x.A s.x.y.adj.length s.x.c, .slice s.x.B s.x.y.pre.length s.x.d, .int .i64 s.t] 51 wr.heap.size (itL s) rfl rfl
      have Px := P.below (below_new' wr (.cells #[.int .i64 s.q, .int .i64 s.x.y.o, .int .i64 s.x.y.s, .int .i64 s.x.y.a, .bool s.x.y.ov, .slice s.x.A s.x.y.adj.length s.x.c, .slice s.x.B s.x.y.pre.length s.x.d, .int .i64 s.t] 51))
      have nb1 := own_blk P.o1 (Nat.le_refl _)
      have nb2 := own_blk P.o2 (Nat.le_refl _)
      have hsz := P.size
      have h96 : ∀ z, z ≤ k → (z + 1) * 96 ≤ 140737488355328 := fun z hz => big96 (by omega)
      have hmx : ∀ z, z ≤ k → z + 1 ≤ maxLen := fun z hz => by simp only [maxLen]; omega
      have ub1 := h96 _ q1
      have ub2 := h96 _ q2
      have ub3 := hmx _ q1
      have ub4 := hmx _ q2
      have hdu : duB now s = decide (s.t ≤ now) := rfl
      clear P h96 hmx
      replace nb1 := Lib.hid nb1
      replace nb2 := Lib.hid nb2
      have b0 := Px.S.c 1 0 rfl rfl
      have b1 := Px.S.c 1 1 rfl rfl
      have b2 := Px.S.c 1 2 rfl rfl
      have b3 := Px.S.c 1 3 rfl rfl
      have y0 := hx.c 0 rfl
      have y1 := hx.c 1 rfl
      have y2 := hx.c 2 rfl
      have y3 := hx.c 3 rfl
      have y4 := hx.c 4 rfl
      have y5 := hx.c 5 rfl
      have y6 := hx.c 6 rfl
      have y7 := hx.c 7 rfl
      go_upto_region 6 with fail
      generalize hwx : World.alloc wr (.cells #[.int .i64 s.q, .int .i64 s.x.y.o, .int .i64 s.x.y.s, .int .i64 s.x.y.a, .bool s.x.y.ov, .slice s.x.A s.x.y.adj.length s.x.c, .slice s.x.B s.x.y.pre.length s.x.d, .int .i64 s.t] 51) = wx at *
      generalize hxb : wr.heap.size = xb at *
      have hxl : xb < wx.heap.size := hx.lt (by simp [itL])
      replace hwx := Lib.hid hwx
      replace hxb := Lib.hid hxb
      cases hd : duB now s with
      | true =>
        rw [hd] at hdu
        have e1' : Hid (F1 (k + 1) = F1 k ++ [s]) := show _ = _ by rw [e1.out, if_pos hd]
        have e2' : Hid (F2 (k + 1) = F2 k ++ [⟨s.q, s.x, now + iv⟩]) := show _ = _ by rw [e2.out]; unfold plI; rw [if_pos hd]
        have Py := Px.below (below_new' wx (.cells #[.int .i64 s.q, .int .i64 s.x.y.o, .int .i64 s.x.y.s, .int .i64 s.x.y.a, .bool s.x.y.ov, .slice s.x.A s.x.y.adj.length s.x.c, .slice s.x.B s.x.y.pre.length s.x.d, .int .i64 s.t] 51))
        have hxy := hx.alloc (.cells #[.int .i64 s.q, .int .i64 s.x.y.o, .int .i64 s.x.y.s, .int .i64 s.x.y.a, .bool s.x.y.ov, .slice s.x.A s.x.y.adj.length s.x.c, .slice s.x.B s.x.y.pre.length s.x.d, .int .i64 s.t] 51)
        have rd0 := Rd.lit wx #[.int .i64 s.q, .int .i64 s.x.y.o, .int .i64 s.x.y.s, .int .i64 s.x.y.a, .bool s.x.y.ov, .slice s.x.A s.x.y.adj.length s.x.c, .slice s.x.B s.x.y.pre.length s.x.d, .int .i64 s.t] 51
        have hszy := Py.size
        replace hdu : decide (s.t ≤ now) = true := hdu.symm
        clear e1 e2 hd Px
        go_upto_region 8 with (at_builtin; refine wpList_appB rfl itT (.tmp 25) (.tmp 27) rfl (w.heap.size + 2) rfl Py.o1 (m := 1) rfl (by simp) rd0 (itL_one s) ub3 ub1 hszy ((F1 k).length + 1) _ rfl rfl ?_; intro v6 w6 o6 hbel6 hg6 hv6; obtain ⟨A7, c7, rfl, -⟩ := own_rd o6)
        have hx6 := hxy.kept hg6 (fun e => nb1.out e.symm) (by simp [itL])
        have P6 := Py.sent o6 hbel6 hg6 hv6
        have n1 : (Value.slice A7 ((F1 k).length + 1) c7).ownBlock ≠ some xb := by
          rcases hv6 with e | e
          · rw [e]; exact nb1.out
          · rw [e]; simp; omega
        have P7 := P6.set (g := xb) hsz n1 nb2.out 7 (.int .i64 (now + iv))
        have hx7 := hx6.set 7 (.int .i64 (now + iv)) (by simp [itL])
        have n1' := Lib.hid n1
        clear Py hxy rd0 hszy o6 hbel6 hg6 hv6 y0 y1 y2 y3 y4 y5 y6 y7 b0 b1 b2 b3 n1 a0 a1 a2 a3 x0 x1 x2 x3 x4 x5 x6 x7
        have b0 := P6.S.c 1 0 rfl rfl
        have b1 := P6.S.c 1 1 rfl rfl
        have b2 := P6.S.c 1 2 rfl rfl
        have b3 := P6.S.c 1 3 rfl rfl
        have f7 := hx6.f 7 rfl
        have g7 := hx6.c 7 rfl
        clear P6
        generalize hw7 : w6.setCell ⟨xb, 7, none⟩ (.int .i64 (now + iv)) = w7 at *
        have y0 := hx7.c 0 rfl
        have y1 := hx7.c 1 rfl
        have y2 := hx7.c 2 rfl
        have y3 := hx7.c 3 rfl
        have y4 := hx7.c 4 rfl
        have y5 := hx7.c 5 rfl
        have y6 := hx7.c 6 rfl
        have y7 := hx7.c 7 rfl
        have Pz := P7.below (below_new' w7 (.cells #[.int .i64 s.q, .int .i64 s.x.y.o, .int .i64 s.x.y.s, .int .i64 s.x.y.a, .bool s.x.y.ov, .slice s.x.A s.x.y.adj.length s.x.c, .slice s.x.B s.x.y.pre.length s.x.d, .int .i64 (now + iv)] 51))
        have rd0 := Rd.lit w7 #[.int .i64 s.q, .int .i64 s.x.y.o, .int .i64 s.x.y.s, .int .i64 s.x.y.a, .bool s.x.y.ov, .slice s.x.A s.x.y.adj.length s.x.c, .slice s.x.B s.x.y.pre.length s.x.d, .int .i64 (now + iv)] 51
        have hszy := Pz.size
        subst hw7
        rw [show (w6.setCell ⟨xb, 7, none⟩ (.int .i64 (now + iv))).heap.size = w6.heap.size by simp] at rd0
        go_wp2_with (at_builtin; refine wpList_appB rfl itT (.tmp 35) (.tmp 37) rfl (w.heap.size + 2) rfl Pz.o2 (m := 1) rfl (by simp) rd0 (itL_one ⟨s.q, s.x, now + iv⟩) ub4 ub2 hszy ((F2 k).length + 1) _ rfl rfl ?_; intro v8 w8 o8 hbel8 hg8 hv8; obtain ⟨A8, c8, rfl, -⟩ := own_rd o8)
        have P9 := Lib.hid (Pz.item (s := ⟨s.q, s.x, now + iv⟩) o8 hbel8 hg8 hv8)
        have l1 : (F1 (k + 1)).length = (F1 k).length + 1 := by rw [e1'.out]; simp
        have l2 : (F2 (k + 1)).length = (F2 k).length + 1 := by rw [e2'.out]; simp
        replace l1 := Lib.hid l1
        replace l2 := Lib.hid l2
        clear Pz rd0 hszy o8 hbel8 hg8 hv8 y0 y1 y2 y3 y4 y5 y6 y7 b0 b1 b2 b3 P7 hx7 hx6 f7 g7 hdu
        go_wp2_with fail
        go_round
        case rel => exact ⟨k + 1, A7, c7, A8, c8, by go_num, by rw [l1.out], by rw [l2.out], by omega, by rw [l1.out, l2.out, e1'.out, e2'.out]; exact P9.out⟩
        case measure => simp [intOf]; omega
      | false =>
        rw [hd] at hdu
        have e1' : Hid (F1 (k + 1) = F1 k) := show _ = _ by rw [e1.out, if_neg (by rw [hd]; simp), List.append_nil]
        have e2' : Hid (F2 (k + 1) = F2 k ++ [s]) := show _ = _ by rw [e2.out]; unfold plI; rw [if_neg (by rw [hd]; simp)]
        have Pz := Px.below (below_new' wx (.cells #[.int .i64 s.q, .int .i64 s.x.y.o, .int .i64 s.x.y.s, .int .i64 s.x.y.a, .bool s.x.y.ov, .slice s.x.A s.x.y.adj.length s.x.c, .slice s.x.B s.x.y.pre.length s.x.d, .int .i64 s.t] 51))
        have rd0 := Rd.lit wx #[.int .i64 s.q, .int .i64 s.x.y.o, .int .i64 s.x.y.s, .int .i64 s.x.y.a, .bool s.x.y.ov, .slice s.x.A s.x.y.adj.length s.x.c, .slice s.x.B s.x.y.pre.length s.x.d, .int .i64 s.t] 51
        have hszy := Pz.size
        replace hdu : decide (s.t ≤ now) = false := hdu.symm
        clear e1 e2 hd Px
        go_wp2_with (at_builtin; refine wpList_appB rfl itT (.tmp 35) (.tmp 37) rfl (w.heap.size + 2) rfl Pz.o2 (m := 1) rfl (by simp) rd0 (itL_one s) ub4 ub2 hszy ((F2 k).length + 1) _ rfl rfl ?_; intro v8 w8 o8 hbel8 hg8 hv8; obtain ⟨A8, c8, rfl, -⟩ := own_rd o8)
        have P9 := Lib.hid (Pz.item (s := s) o8 hbel8 hg8 hv8)
        have l2 : (F2 (k + 1)).length = (F2 k).length + 1 := by rw [e2'.out]; simp
        replace l2 := Lib.hid l2
        clear Pz rd0 hszy o8 hbel8 hg8 hv8 y0 y1 y2 y3 y4 y5 y6 y7 b0 b1 b2 b3 hdu
        go_wp2_with fail
        go_round
        case rel => exact ⟨k + 1, A1, c1, A8, c8, by go_num, by rw [e1'.out], by rw [l2.out], by omega, by rw [l2.out, e1'.out, e2'.out]; exact P9.out⟩
        case measure => simp [intOf]; omega
    · obtain rfl : m = k := by omega
      have hs2 := P.size
      have a0 := P.S.c 1 0 rfl rfl
      have a1 := P.S.c 1 1 rfl rfl
      have a2 := P.S.c 1 2 rfl rfl
      have a3 := P.S.c 1 3 rfl rfl
      have f0 := P.S.f 1 0 rfl rfl
      have f1 := P.S.f 1 1 rfl rfl
      have f2 := P.S.f 1 2 rfl rfl
      have f3 := P.S.f 1 3 rfl rfl
      have S5 := P.S.set 1 3 (.slice A2 (F2 m).length c2) rfl (by simp) (Nat.le_refl _) (by simp) _ rfl
      have S9 := S5.set4 (.int .i64 iv) (.int .i64 now) (.slice A n c) (.slice A2 (F2 m).length c2) (by omega) (by simp)
      have o8 := own_set4 (own_set1 P.o1 (g := w.heap.size) (by omega) 3 (.slice A2 (F2 m).length c2)) (g := w.heap.size + 1) (by omega) (.int .i64 iv) (.int .i64 now) (.slice A n c) (.slice A2 (F2 m).length c2)
      have o9 := own_set4 (own_set1 P.o2 (g := w.heap.size) (by omega) 3 (.slice A2 (F2 m).length c2)) (g := w.heap.size + 1) (by omega) (.int .i64 iv) (.int .i64 now) (.slice A n c) (.slice A2 (F2 m).length c2)
      have hf9 := Lib.hid (hnew.out _ A2 c2 A1 c1 S9.b (own_mono o9 (by omega)) (own_mono o8 (by omega)))
      have e0 := S5.c 1 0 rfl rfl
      have e1 := S5.c 1 1 rfl rfl
      have e2 := S5.c 1 2 rfl rfl
      have e3 := S5.c 1 3 rfl rfl
      have r0 := S5.c 0 0 rfl rfl
      have r1 := S5.c 0 1 rfl rfl
      have r2 := S5.c 0 2 rfl rfl
      have r3 := S5.c 0 3 rfl rfl
      have g0 := S5.f 0 0 rfl rfl
      have g1 := S5.f 0 1 rfl rfl
      have g2 := S5.f 0 2 rfl rfl
      have g3 := S5.f 0 3 rfl rfl
      have k0 := S9.c 0 0 rfl rfl
      have k1 := S9.c 0 1 rfl rfl
      have k2 := S9.c 0 2 rfl rfl
      have k3 := S9.c 0 3 rfl rfl
      clear hnew P o8 o9
      go_wp2_with fail
      exact bodyPost_ret (v := .tuple #[.agg #[.int .i64 iv, .int .i64 now, .slice A n c, .slice A2 (F2 m).length c2], .slice A1 (F1 m).length c1]) (by simp [results, Try.results35, go_sem, k0, k1, k2, k3]) rfl hf9.out

end Go.Proofs.Ytgbcnglagnlmhaa

namespace Go.Proofs.Ytgbcnglagnlmhaa
set_option linter.unusedVariables false
open Go.RowKit Go.Maps Go.Sort

def akB (R : RF) (q : Int) (a : La) : Bool := match gtR R.its q a.o with | some s => sameB a s.x.y | none => false
def akF (R : RF) (q : Int) (a : La) : RF := if akB R q a = true then ⟨R.iv, R.now, R.ls, wo q a.o R.its⟩ else R
def RackPost (w : World) (A : Option Addr) (c : Nat) (B : Option Addr) (d : Nat) (R : RF) (q : Int) (a : La) (e : Ending) (w' : World) : Prop :=
  ∃ A' c' B' d', e = .returned (.tuple #[rfV (akF R q a) A' (akF R q a).ls.length c' B' (akF R q a).its.length d', .bool (akB R q a)]) ∧ LsTo w w' A c R.ls A' c' (akF R q a).ls ∧ ItTo w w' B d R.its B' d' (akF R q a).its ∧ Below w.heap.size w w'

set_option maxRecDepth 100000 in
set_option maxHeartbeats 6400000 in
theorem rack_any (w : World) (A : Option Addr) (c : Nat) (B : Option Addr) (d : Nat) (R : RF) (hA : Rd w A (R.ls.map encZ)) (hB : Rd w B (itV R.its)) (hx : ItsOk w R.its) (hn : R.its.length ≤ 1000000) (q : Int) (a : Lx) (ha : LxOk w a) :
    Calls Try.prog 34 #[rfV R A R.ls.length c B R.its.length d, .int .i64 q, lxAgg a] w (RackPost w A c B d R q a.y) := by
  have hG := fun W (hb : Below w.heap.size w W) => rget_any W _ R (RfAt.below ⟨A, c, B, d, rfl, hA, hB, hx⟩ hb) hn q a.y.o
  have hsame : Hid (∀ w', Below w.heap.size w w' → akB R q a.y = false → RackPost w A c B d R q a.y (.returned (.tuple #[rfV R A R.ls.length c B R.its.length d, .bool false])) w') := fun w' hb ho => by
    unfold RackPost akF
    rw [if_neg (by rw [ho]; simp), ho]
    exact ⟨A, c, B, d, rfl, .inl ⟨rfl, rfl, rfl⟩, .inl ⟨rfl, rfl, rfl⟩, hb⟩
  have hnew : Hid (∀ w' B' d', Below w.heap.size w w' → w'.ownsRow w.heap.size 51 8 (.slice B' (wo q a.y.o R.its).length d') (wo q a.y.o R.its).length (itV (wo q a.y.o R.its)) → akB R q a.y = true → RackPost w A c B d R q a.y (.returned (.tuple #[.agg #[.int .i64 R.iv, .int .i64 R.now, .slice A R.ls.length c, .slice B' (wo q a.y.o R.its).length d'], .bool true])) w') := fun w' B' d' hb hr ho => by
    unfold RackPost akF
    rw [if_pos ho, ho]
    exact ⟨A, c, B', d', rfl, .inl ⟨rfl, rfl, rfl⟩, .inr hr, hb⟩
  have S := (((((St.start w).read hB).new' #[.int .i64 R.iv, .int .i64 R.now, .slice A R.ls.length c, .slice B R.its.length d] 44 w.heap.size _ rfl rfl).new' #[.int .i64 a.y.o, .int .i64 a.y.s, .int .i64 a.y.a, .bool a.y.ov, .slice a.A a.y.adj.length a.c, .slice a.B a.y.pre.length a.d] 32 (w.heap.size + 1) _ (by simp) rfl)).new' #[.int .i64 0, .int .i64 0, .slice none 0 0, .slice none 0 0] 44 (w.heap.size + 2) _ (by simp) rfl
  have hgx := gtLx_ok hx q a.y.o
  have hgs : Hid (akB R q a.y = match gtR R.its q a.y.o with | some s => sameB a.y s.x.y | none => false) := rfl
  have hW := fun W (hb : Below w.heap.size w W) => rwithout_any W B R.its.length d R.its (hB.below hb) rfl hn q a.y.o
  replace hG := Lib.hid hG
  replace hW := Lib.hid hW
  replace ha := Lib.hid ha
  clear hA hB hx
  obtain ⟨L, hL⟩ : ∃ L, wo q a.y.o R.its = L := ⟨_, rfl⟩
  rw [hL] at hnew hW
  clear hL
  obtain ⟨Q, hQ⟩ : ∃ Q, RackPost w A c B d R q a.y = Q := ⟨_, rfl⟩
  rw [hQ] at hsame hnew ⊢
  clear hQ
  have a0 := S.c 2 0 rfl rfl
  have a1 := S.c 2 1 rfl rfl
  have a2 := S.c 2 2 rfl rfl
  have a3 := S.c 2 3 rfl rfl
  have b0 := S.c 1 0 rfl rfl
  have b1 := S.c 1 1 rfl rfl
  have b2 := S.c 1 2 rfl rfl
  have b3 := S.c 1 3 rfl rfl
  have b4 := S.c 1 4 rfl rfl
  have b5 := S.c 1 5 rfl rfl
  go_enter Try.func34, Try.ntmps34
  go_wp2_with fail
  (with_reducible refine (hG.out _ S.b).mono ?_)
  rintro e w2 ⟨rfl, hb⟩
  clear a0 a1 a2 a3
  clear b0 b1 b2 b3 b4 b5
  replace S := S.call hb
  clear hb hG
  generalize gtR R.its q a.y.o = G at *
  obtain ⟨X, hX⟩ : ∃ X, gtLx G = X := ⟨_, rfl⟩
  rw [hX] at hgx ⊢
  replace S := S.new' #[.int .i64 X.y.o, .int .i64 X.y.s, .int .i64 X.y.a, .bool X.y.ov, .slice X.A X.y.adj.length X.c, .slice X.B X.y.pre.length X.d] 32 (w2.heap.size) _ (by first | rfl | simp) rfl
  obtain ⟨bo, hbo⟩ : ∃ bo, akB R q a.y = bo := ⟨_, rfl⟩
  rw [hbo] at hsame hnew hgs
  clear hbo
  cases G
  case' none =>
    obtain rfl : bo = false := hgs
    clear hnew hgx hX
  case' some s =>
    obtain rfl : s.x = X := hX
    have NW := rsamela_any _ _ _ a.y s.x.y (LaAt.below ha.out S.b) (hgx.below S.b)
    replace hgs : Hid (bo = sameB a.y s.x.y) := hgs
    generalize sameB a.y s.x.y = z at *
    obtain rfl : bo = z := hgs
    generalize s.x = X at *
    replace NW := Lib.hid NW
    clear hgx
    have b0 := S.c 2 0 rfl rfl
    have b1 := S.c 2 1 rfl rfl
    have b2 := S.c 2 2 rfl rfl
    have b3 := S.c 2 3 rfl rfl
    have b4 := S.c 2 4 rfl rfl
    have b5 := S.c 2 5 rfl rfl
    have e0 := S.c 0 0 rfl rfl
    have e1 := S.c 0 1 rfl rfl
    have e2 := S.c 0 2 rfl rfl
    have e3 := S.c 0 3 rfl rfl
    have e4 := S.c 0 4 rfl rfl
    have e5 := S.c 0 5 rfl rfl
    go_wp2_with fail
    (with_reducible refine (NW.out).mono ?_)
    rintro e w4 ⟨rfl, hb⟩
    clear b0 b1 b2 b3 b4 b5
    clear e0 e1 e2 e3 e4 e5
    replace S := S.call hb
    clear NW hb
    cases bo
    rotate_left
    · have b0 := S.c 2 0 rfl rfl
      have b1 := S.c 2 1 rfl rfl
      have b2 := S.c 2 2 rfl rfl
      have b3 := S.c 2 3 rfl rfl
      have b4 := S.c 2 4 rfl rfl
      have b5 := S.c 2 5 rfl rfl
      have a0 := S.c 3 0 rfl rfl
      have a1 := S.c 3 1 rfl rfl
      have a2 := S.c 3 2 rfl rfl
      have a3 := S.c 3 3 rfl rfl
      clear hsame
      have hz2 : w.heap.size + 2 < w4.heap.size := (S.box 1 rfl).lt (by simp)
      go_wp2_with fail
      (with_reducible refine (hW.out _ S.b).mono ?_)
      rintro e w5 ⟨B3, d3, rfl, ho3, hb⟩
      clear a0 a1 a2 a3
      clear b0 b1 b2 b3 b4 b5
      replace S := S.call hb
      clear hb
      have T := S.keepBoxes [(w.heap.size + 2, [.int .i64 0, .int .i64 0, .slice none 0 0, .slice none 0 0]), (w.heap.size, [.int .i64 R.iv, .int .i64 R.now, .slice A R.ls.length c, .slice B R.its.length d])] (by simp)
      have a0 := T.c 1 0 rfl rfl
      have a1 := T.c 1 1 rfl rfl
      have a2 := T.c 1 2 rfl rfl
      have a3 := T.c 1 3 rfl rfl
      have f0 := T.f 1 0 rfl rfl
      have f1 := T.f 1 1 rfl rfl
      have f2 := T.f 1 2 rfl rfl
      have f3 := T.f 1 3 rfl rfl
      have S5 := T.set 1 3 (.slice B3 L.length d3) rfl (by simp) (Nat.le_refl _) (by simp) _ rfl
      have S9 := S5.set4 (.int .i64 R.iv) (.int .i64 R.now) (.slice A R.ls.length c) (.slice B3 L.length d3) (by omega) (by simp)
      have o9 := own_set4 (own_set1 ho3 (g := w.heap.size) (by omega) 3 (.slice B3 L.length d3)) (g := w.heap.size + 2) (by omega) (.int .i64 R.iv) (.int .i64 R.now) (.slice A R.ls.length c) (.slice B3 L.length d3)
      have hf9 := Lib.hid (hnew.out _ B3 d3 S9.b (own_mono o9 (by omega)) (by first | rfl | trivial))
      have e0 := S5.c 1 0 rfl rfl
      have e1 := S5.c 1 1 rfl rfl
      have e2 := S5.c 1 2 rfl rfl
      have e3 := S5.c 1 3 rfl rfl
      have r0 := S5.c 0 0 rfl rfl
      have r1 := S5.c 0 1 rfl rfl
      have r2 := S5.c 0 2 rfl rfl
      have r3 := S5.c 0 3 rfl rfl
      have g0 := S5.f 0 0 rfl rfl
      have g1 := S5.f 0 1 rfl rfl
      have g2 := S5.f 0 2 rfl rfl
      have g3 := S5.f 0 3 rfl rfl
      have k0 := S9.c 0 0 rfl rfl
      have k1 := S9.c 0 1 rfl rfl
      have k2 := S9.c 0 2 rfl rfl
      have k3 := S9.c 0 3 rfl rfl
      clear hW hnew ho3 o9
      go_wp2_with fail
      exact bodyPost_ret (v := .tuple #[.agg #[.int .i64 R.iv, .int .i64 R.now, .slice A R.ls.length c, .slice B3 L.length d3], .bool true]) (by simp [results, Try.results34, go_sem, k0, k1, k2, k3]) rfl hf9.out
  all_goals
    have b0 := S.c 3 0 rfl rfl
    have b1 := S.c 3 1 rfl rfl
    have b2 := S.c 3 2 rfl rfl
    have b3 := S.c 3 3 rfl rfl
    have S9 := (S.keepBoxes [(w.heap.size + 2, [.int .i64 0, .int .i64 0, .slice none 0 0, .slice none 0 0])] (by simp)).set4 (.int .i64 R.iv) (.int .i64 R.now) (.slice A R.ls.length c) (.slice B R.its.length d) (by omega) (by simp)
    have e0 := S9.c 0 0 rfl rfl
    have e1 := S9.c 0 1 rfl rfl
    have e2 := S9.c 0 2 rfl rfl
    have e3 := S9.c 0 3 rfl rfl
    have r0 := S.c 1 0 rfl rfl
    have r1 := S.c 1 1 rfl rfl
    have r2 := S.c 1 2 rfl rfl
    have r3 := S.c 1 3 rfl rfl
    have f0 := S.f 1 0 rfl rfl
    have f1 := S.f 1 1 rfl rfl
    have f2 := S.f 1 2 rfl rfl
    have f3 := S.f 1 3 rfl rfl
    have hf9 := Lib.hid (hsame.out _ S9.b (by first | rfl | trivial))
    clear hsame hW
    go_wp2_with fail
    exact bodyPost_ret (v := .tuple #[rfV R A R.ls.length c B R.its.length d, .bool false]) (by simp [results, Try.results34, go_sem, e0, e1, e2, e3]) rfl hf9.out

end Go.Proofs.Ytgbcnglagnlmhaa
