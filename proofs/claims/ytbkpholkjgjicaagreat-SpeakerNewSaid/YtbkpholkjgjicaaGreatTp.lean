/-
  Topologies: plain, and as they lie in memory; within, Node, Arcs, Clone.
-/
import Derived.Test.YtbkpholkjgjicaaGreatClone
import Derived.Test.YtbkpholkjgjicaaGreatValW
namespace Go.Proofs.YtbkpholkjgjicaaGreat
set_option linter.unusedVariables false
open Go.RowKit Go.Sort

/-- A link. -/
structure Lk where
  a : Int
  b : Int
  c : Int
  d : Int
  cap : Int
  del : Int
  grp : Int
def lkL (x : Lk) : List Value := [.int .i64 x.a, .int .i64 x.b, .int .i64 x.c, .int .i64 x.d, .int .i64 x.cap, .int .i64 x.del, .int .i64 x.grp]
def lksV : List Lk → List Value
  | [] => []
  | x :: l => lkL x ++ lksV l
def boV (l : List Bool) : List Value := l.map .bool
/-- A topology. -/
structure Tp where
  n : Int
  ov : List Bool
  ln : List Lk
abbrev tpV (n : Int) (A : Option Addr) (k c : Nat) (B : Option Addr) (m d : Nat) : Value := .agg #[.int .i64 n, .slice A k c, .slice B m d]
def TpAt (w : World) (v : Value) (t : Tp) : Prop := ∃ A c B d, v = tpV t.n A t.ov.length c B t.ln.length d ∧ Rd w A (boV t.ov) ∧ Rd w B (lksV t.ln) ∧ t.ov.length ≤ maxLen ∧ t.ln.length ≤ maxLen
theorem TpAt.below {w w' : World} {v : Value} {t : Tp} (h : TpAt w v t) (hb : Below w.heap.size w w') : TpAt w' v t := by
  obtain ⟨A, c, B, d, rfl, h1, h2, h3⟩ := h
  exact ⟨A, c, B, d, rfl, h1.below hb, h2.below hb, h3⟩
theorem lksV_len (l : List Lk) : (lksV l).length = l.length * 7 := by
  induction l with
  | nil => rfl
  | cons r l ih => simp only [lksV, lkL, List.length_append, List.length_cons, List.length_nil, ih]; omega
theorem boV_len (l : List Bool) : (boV l).length = l.length := by simp [boV]
theorem lksV_append (a b : List Lk) : lksV (a ++ b) = lksV a ++ lksV b := by
  induction a with
  | nil => rfl
  | cons r a ih => simp only [List.cons_append, lksV, ih, List.append_assoc]
theorem lkL_one (x : Lk) : ∀ u ∈ lkL x, u.oneCell' = true := by
  intro u hu
  simp only [lkL, List.mem_cons, List.not_mem_nil, or_false] at hu
  rcases hu with rfl | rfl | rfl | rfl | rfl | rfl | rfl <;> rfl
theorem lksV_one (l : List Lk) : ∀ u ∈ lksV l, u.oneCell' = true := by
  induction l with
  | nil => simp [lksV]
  | cons r l ih =>
    intro u hu
    simp only [lksV, List.mem_append] at hu
    rcases hu with hu | hu
    · exact lkL_one r u hu
    · exact ih u hu
theorem boV_one (l : List Bool) : ∀ u ∈ boV l, u.oneCell' = true := by
  intro u hu
  obtain ⟨b, _, rfl⟩ := List.mem_map.1 hu
  rfl
theorem lksV_get (l : List Lk) : ∀ (k : Nat) (hk : k < l.length) (j : Nat) (hj : j < 7), (lksV l)[7 * k + j]? = (lkL l[k])[j]? := by
  induction l with
  | nil => intro k hk; simp at hk
  | cons r l ih =>
    intro k hk j hj
    have h8 : (lkL r).length = 7 := rfl
    cases k with
    | zero => simp only [lksV, List.getElem_cons_zero]; rw [List.getElem?_append_left (by omega)]; simp
    | succ k =>
      simp only [lksV, List.getElem_cons_succ]
      rw [List.getElem?_append_right (by omega), h8, show 7 * (k + 1) + j - 7 = 7 * k + j by omega]
      exact ih k (by simpa using hk) j hj
/-- A link's cells. -/
structure LkC (w : World) (b o : Nat) (x : Lk) : Prop where
  c0 : w.cell? ⟨b, o, none⟩ = some (.int .i64 x.a)
  c1 : w.cell? ⟨b, o + 1, none⟩ = some (.int .i64 x.b)
  c2 : w.cell? ⟨b, o + 2, none⟩ = some (.int .i64 x.c)
  c3 : w.cell? ⟨b, o + 2 + 1, none⟩ = some (.int .i64 x.d)
  c3' : w.cell? ⟨b, o + 3, none⟩ = some (.int .i64 x.d)
  c4 : w.cell? ⟨b, o + 4, none⟩ = some (.int .i64 x.cap)
  c5 : w.cell? ⟨b, o + 5, none⟩ = some (.int .i64 x.del)
  c6 : w.cell? ⟨b, o + 6, none⟩ = some (.int .i64 x.grp)
theorem rd_lk {w : World} {A : Option Addr} {l : List Lk} (h : Rd w A (lksV l)) (hn : 0 < l.length) :
    ∃ b off, A = some ⟨b, off, none⟩ ∧ ∀ k (hk : k < l.length), LkC w b (off + k * 7) l[k] := by
  obtain ⟨b, off, e, hc⟩ := rd_at h (by rw [lksV_len]; omega)
  have key : ∀ k (hk : k < l.length) j (u : Value), j < 7 → (lkL l[k])[j]? = some u → w.cell? ⟨b, off + k * 7 + j, none⟩ = some u := fun k hk j u hj hu => by
    rw [Nat.add_assoc]
    exact hc _ _ (by rw [Nat.mul_comm k 7, lksV_get l k hk j hj]; exact hu)
  exact ⟨b, off, e, fun k hk => ⟨key k hk 0 _ (by omega) rfl, key k hk 1 _ (by omega) rfl, key k hk 2 _ (by omega) rfl, key k hk 3 _ (by omega) rfl, key k hk 3 _ (by omega) rfl, key k hk 4 _ (by omega) rfl, key k hk 5 _ (by omega) rfl, key k hk 6 _ (by omega) rfl⟩⟩
theorem rd_bo {w : World} {A : Option Addr} {l : List Bool} (h : Rd w A (boV l)) (hn : 0 < l.length) :
    ∃ b off, A = some ⟨b, off, none⟩ ∧ ∀ k (hk : k < l.length), w.cell? ⟨b, off + k, none⟩ = some (.bool l[k]) := by
  obtain ⟨b, off, e, hc⟩ := rd_at h (by rw [boV_len]; omega)
  exact ⟨b, off, e, fun k hk => hc k _ (by simp [boV, List.getElem?_eq_getElem hk])⟩

/-! ### Valid topologies -/
structure LkOk (n : Int) (x : Lk) : Prop where
  a : 0 ≤ x.a ∧ x.a < n
  b : 0 ≤ x.b ∧ x.b < n
  ne : x.a ≠ x.b
  c : 1 ≤ x.c ∧ x.c ≤ 65535
  d : 1 ≤ x.d ∧ x.d ≤ 65535
  cap : 0 ≤ x.cap ∧ x.cap ≤ 1048576
  del : 1 ≤ x.del ∧ x.del ≤ 65536
  grp : 0 ≤ x.grp ∧ x.grp ≤ 64
structure TpOk (t : Tp) : Prop where
  n : 1 ≤ t.n ∧ t.n ≤ 64
  ov : t.ov.length = 0 ∨ (t.ov.length : Int) = t.n
  ln : t.ln.length ≤ 256
  all : ∀ x ∈ t.ln, LkOk t.n x
open Classical in
noncomputable def tB (t : Tp) : Bool := decide (TpOk t)
open Classical in
theorem tB_t {t : Tp} (h : TpOk t) : tB t = true := by unfold tB; exact decide_eq_true h
open Classical in
theorem tB_f {t : Tp} (h : ¬ TpOk t) : tB t = false := by unfold tB; exact decide_eq_false h
theorem tB_iff {t : Tp} : tB t = true ↔ TpOk t := by unfold tB; simp

/-! ### Small functions -/
set_option maxHeartbeats 800000 in
theorem twithin_any (n l m : Int) (w : World) : Calls Tryz.prog 57 #[.int .i64 n, .int .i64 l, .int .i64 m] w fun e w' => e = .returned (.bool (wiB n l m)) ∧ w = w' := by
  by_cases h1 : l ≤ n
  · have e : wiB n l m = decide (n ≤ m) := by simp [wiB, h1]
    rw [e]; clear e
    go_enter Tryz.func57, Tryz.ntmps57
    go_wp2_with fail
    all_goals (first | done | go_ret)
    all_goals exact ⟨rfl, rfl⟩
  · have e : wiB n l m = false := by simp [wiB, h1]
    rw [e]; clear e
    go_enter Tryz.func57, Tryz.ntmps57
    go_wp2_with fail
    all_goals (first | done | go_ret)
    all_goals exact ⟨rfl, rfl⟩
set_option maxHeartbeats 800000 in
theorem rtwithin_any (n l m : Int) (w : World) : Calls Tryz.prog 52 #[.int .i64 n, .int .i64 l, .int .i64 m] w fun e w' => e = .returned (.bool (wiB n l m)) ∧ w = w' := by
  by_cases h1 : l ≤ n
  · have e : wiB n l m = decide (n ≤ m) := by simp [wiB, h1]
    rw [e]; clear e
    go_enter Tryz.func52, Tryz.ntmps52
    go_wp2_with fail
    all_goals (first | done | go_ret)
    all_goals exact ⟨rfl, rfl⟩
  · have e : wiB n l m = false := by simp [wiB, h1]
    rw [e]; clear e
    go_enter Tryz.func52, Tryz.ntmps52
    go_wp2_with fail
    all_goals (first | done | go_ret)
    all_goals exact ⟨rfl, rfl⟩
def ndB (n i : Int) : Bool := decide (0 ≤ i) && decide (i < n)
theorem ndB_t {n i : Int} (h : ndB n i = true) : 0 ≤ i ∧ i < n := by simpa [ndB] using h
theorem ndB_f {n i : Int} (h : ndB n i = false) : ¬ (0 ≤ i ∧ i < n) := fun h2 => by simp [ndB, h2.1, h2.2] at h
set_option maxHeartbeats 800000 in
theorem node_any (n i : Int) (u1 u2 : Value) (h1 : u1.oneCell' = true) (h2 : u2.oneCell' = true) (w : World) : Calls Tryz.prog 20 #[.agg #[.int .i64 n, u1, u2], .int .i64 i] w fun e w' => e = .returned (.bool (ndB n i)) ∧ Below w.heap.size w w' := by
  have hbb := below_new' w (.cells #[.int .i64 n, u1, u2] 25)
  have S := Box.new w #[.int .i64 n, u1, u2] 25
  have c0 := S.c 0 rfl
  by_cases h1 : 0 ≤ i
  · have e : ndB n i = decide (i < n) := by simp [ndB, h1]
    rw [e]; clear e S
    go_enter Tryz.func20, Tryz.ntmps20
    go_wp2_with fail
    all_goals (first | done | go_ret)
    all_goals exact ⟨rfl, hbb⟩
  · have e : ndB n i = false := by simp [ndB, h1]
    rw [e]; clear e S
    go_enter Tryz.func20, Tryz.ntmps20
    go_wp2_with fail
    all_goals (first | done | go_ret)
    all_goals exact ⟨rfl, hbb⟩
set_option maxHeartbeats 800000 in
theorem arcs_any (n : Int) (u1 : Value) (B : Option Addr) (m d : Nat) (w : World) (hm : m ≤ 1000000) : Calls Tryz.prog 60 #[.agg #[.int .i64 n, u1, .slice B m d]] w fun e w' => e = .returned (.int .i64 ((2 * m : Nat) : Int)) ∧ Below w.heap.size w w' := by
  have hbb := below_new' w (.cells #[.int .i64 n, u1, .slice B m d] 25)
  have S := Box.new w #[.int .i64 n, u1, .slice B m d] 25
  have c2 := S.c 2 rfl
  clear S
  go_enter Tryz.func60, Tryz.ntmps60
  go_wp2_with fail
  go_ret
  exact ⟨by simp, hbb⟩

/-! ### Copies -/
theorem boT : ElemT Tryz.prog 22 4 (.bool false) 1 1 := ⟨Tryz.underlying22, by kernel_rfl, rfl, by omega⟩
theorem lkT : ElemT Tryz.prog 23 110 (.agg #[.int .i64 0, .int .i64 0, .int .i64 0, .int .i64 0, .int .i64 0, .int .i64 0, .int .i64 0]) 7 56 := ⟨Tryz.underlying23, by kernel_rfl, rfl, by omega⟩
set_option maxRecDepth 100000 in
set_option maxHeartbeats 800000 in
theorem clone_bo (w : World) (A : Option Addr) (n c : Nat) (l : List Bool) (hr : Rd w A (boV l)) (hn : l.length = n) (hb : n ≤ 1000000) :
    Calls Tryz.prog 58 #[.slice A n c] w (ClonePost w 4 1 n (boV l)) := by
  rcases A with _ | ad
  · have h0 := hr.nil_len
    rw [boV_len] at h0
    obtain rfl : l = [] := List.eq_nil_of_length_eq_zero (by omega)
    subst hn
    have hE := fun W => Lib.run_eql_slice_nil W 22 4 none 0 c 0 0 Tryz.underlying22
    go_enter Tryz.func58, Tryz.ntmps58
    go_wp2_with fail
    go_ret
    exact ⟨none, 0, rfl, World.ownsRow_nil _ _ _ _, Below.refl _ _⟩
  · have hl : (boV l).length = n * 1 := by rw [boV_len, hn]; omega
    clear hn
    have hE := fun W => Lib.run_eql_slice_nil W 22 4 (some ad) n c 0 0 Tryz.underlying22
    go_enter Tryz.func58, Tryz.ntmps58
    go_wp2_with (at_builtin; refine wpList_app rfl boT (.tmp 5) (.tmp 6) rfl w.heap.size rfl (own_empty _ _ _) (m := n) rfl hl (hr.below (below_new' _ _)) (boV_one l) (by simp only [maxLen]; omega) (by omega) (by simp) n (boV l) (by omega) (by simp) ?_; intro v' w' ho hb')
    go_ret
    obtain ⟨A', c', rfl, _⟩ := own_rd ho
    exact ⟨A', c', rfl, ho, (below_new' _ _).trans hb'⟩
set_option maxRecDepth 100000 in
set_option maxHeartbeats 800000 in
theorem clone_lk (w : World) (A : Option Addr) (n c : Nat) (l : List Lk) (hr : Rd w A (lksV l)) (hn : l.length = n) (hb : n ≤ 1000000) :
    Calls Tryz.prog 59 #[.slice A n c] w (ClonePost w 110 7 n (lksV l)) := by
  rcases A with _ | ad
  · have h0 := hr.nil_len
    rw [lksV_len] at h0
    obtain rfl : l = [] := List.eq_nil_of_length_eq_zero (by omega)
    subst hn
    have hE := fun W => Lib.run_eql_slice_nil W 23 110 none 0 c 0 0 Tryz.underlying23
    go_enter Tryz.func59, Tryz.ntmps59
    go_wp2_with fail
    go_ret
    exact ⟨none, 0, rfl, World.ownsRow_nil _ _ _ _, Below.refl _ _⟩
  · have hl : (lksV l).length = n * 7 := by rw [lksV_len, hn]
    clear hn
    have hE := fun W => Lib.run_eql_slice_nil W 23 110 (some ad) n c 0 0 Tryz.underlying23
    go_enter Tryz.func59, Tryz.ntmps59
    go_wp2_with (at_builtin; refine wpList_app rfl lkT (.tmp 5) (.tmp 6) rfl w.heap.size rfl (own_empty _ _ _) (m := n) rfl hl (hr.below (below_new' _ _)) (lksV_one l) (by simp only [maxLen]; omega) (by omega) (by simp) n (lksV l) (by omega) (by simp) ?_; intro v' w' ho hb')
    go_ret
    obtain ⟨A', c', rfl, _⟩ := own_rd ho
    exact ⟨A', c', rfl, ho, (below_new' _ _).trans hb'⟩

end Go.Proofs.YtbkpholkjgjicaaGreat
