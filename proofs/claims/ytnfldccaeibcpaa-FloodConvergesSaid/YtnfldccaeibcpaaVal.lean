/-
  lsa.within, lsa.Valid.
-/
import Derived.Test.YtnfldccaeibcpaaCmp
import Derived.Test.YtnfldccaeibcpaaCodP
namespace Go.Proofs.Ytnfldccaeibcpaa
set_option linter.unusedVariables false
open Go.RowKit

/-! ### Advertisements -/
abbrev Ad := Int × Int × Int
abbrev Pf := Nat × Int
/-- An advertisement. -/
structure La where
  o : Int
  s : Int
  a : Int
  ov : Bool
  adj : List Ad
  pre : List Pf
def adV : List Ad → List Value
  | [] => []
  | x :: l => .int .i64 x.1 :: .int .i64 x.2.1 :: .int .i64 x.2.2 :: adV l
def pfV : List Pf → List Value
  | [] => []
  | x :: l => .int .u32 (x.1 : Int) :: .int .i64 x.2 :: pfV l
theorem adV_len (l : List Ad) : (adV l).length = l.length * 3 := by
  induction l with
  | nil => rfl
  | cons r l ih => simp only [adV, List.length_cons, ih]; omega
theorem pfV_len (l : List Pf) : (pfV l).length = l.length * 2 := by
  induction l with
  | nil => rfl
  | cons r l ih => simp only [pfV, List.length_cons, ih]; omega
theorem adV_append (a b : List Ad) : adV (a ++ b) = adV a ++ adV b := by
  induction a with
  | nil => rfl
  | cons r a ih => simp only [List.cons_append, adV, ih]
theorem pfV_append (a b : List Pf) : pfV (a ++ b) = pfV a ++ pfV b := by
  induction a with
  | nil => rfl
  | cons r a ih => simp only [List.cons_append, pfV, ih]
theorem adV_one (a : List Ad) : ∀ u ∈ adV a, u.oneCell' = true := by
  induction a with
  | nil => simp [adV]
  | cons r a ih =>
    intro u hu
    simp only [adV, List.mem_cons] at hu
    rcases hu with rfl | rfl | rfl | hu
    · rfl
    · rfl
    · rfl
    · exact ih u hu
theorem pfV_one (a : List Pf) : ∀ u ∈ pfV a, u.oneCell' = true := by
  induction a with
  | nil => simp [pfV]
  | cons r a ih =>
    intro u hu
    simp only [pfV, List.mem_cons] at hu
    rcases hu with rfl | rfl | hu
    · rfl
    · rfl
    · exact ih u hu
theorem adV_get (l : List Ad) : ∀ (k : Nat) (hk : k < l.length), (adV l)[3 * k]? = some (.int .i64 l[k].1) ∧ (adV l)[3 * k + 1]? = some (.int .i64 l[k].2.1) ∧ (adV l)[3 * k + 2]? = some (.int .i64 l[k].2.2) := by
  induction l with
  | nil => intro k hk; simp at hk
  | cons r l ih =>
    intro k hk
    cases k with
    | zero => exact ⟨rfl, rfl, rfl⟩
    | succ k =>
      obtain ⟨h1, h2, h3⟩ := ih k (by simpa using hk)
      rw [show 3 * (k + 1) = 3 * k + 1 + 1 + 1 by omega]
      exact ⟨by simpa [adV] using h1, by simpa [adV] using h2, by simpa [adV] using h3⟩
theorem pfV_get (l : List Pf) : ∀ (k : Nat) (hk : k < l.length), (pfV l)[2 * k]? = some (.int .u32 (l[k].1 : Int)) ∧ (pfV l)[2 * k + 1]? = some (.int .i64 l[k].2) := by
  induction l with
  | nil => intro k hk; simp at hk
  | cons r l ih =>
    intro k hk
    cases k with
    | zero => exact ⟨rfl, rfl⟩
    | succ k =>
      obtain ⟨h1, h2⟩ := ih k (by simpa using hk)
      rw [show 2 * (k + 1) = 2 * k + 1 + 1 by omega]
      exact ⟨by simpa [pfV] using h1, by simpa [pfV] using h2⟩
theorem rd_ad {w : World} {A : Option Addr} {l : List Ad} (h : Rd w A (adV l)) (hn : 0 < l.length) :
    ∃ b off, A = some ⟨b, off, none⟩ ∧ ∀ k (hk : k < l.length), w.cell? ⟨b, off + k * 3, none⟩ = some (.int .i64 l[k].1) ∧ w.cell? ⟨b, off + k * 3 + 1, none⟩ = some (.int .i64 l[k].2.1) ∧ w.cell? ⟨b, off + k * 3 + 2, none⟩ = some (.int .i64 l[k].2.2) := by
  obtain ⟨b, off, e, hc⟩ := rd_at h (by rw [adV_len]; omega)
  refine ⟨b, off, e, fun k hk => ?_⟩
  obtain ⟨h1, h2, h3⟩ := adV_get l k hk
  exact ⟨hc _ _ (by rw [Nat.mul_comm]; exact h1), by rw [Nat.add_assoc]; exact hc _ _ (by rw [Nat.mul_comm]; exact h2), by rw [Nat.add_assoc]; exact hc _ _ (by rw [Nat.mul_comm]; exact h3)⟩
theorem rd_pf {w : World} {A : Option Addr} {l : List Pf} (h : Rd w A (pfV l)) (hn : 0 < l.length) :
    ∃ b off, A = some ⟨b, off, none⟩ ∧ ∀ k (hk : k < l.length), w.cell? ⟨b, off + k * 2, none⟩ = some (.int .u32 (l[k].1 : Int)) ∧ w.cell? ⟨b, off + k * 2 + 1, none⟩ = some (.int .i64 l[k].2) := by
  obtain ⟨b, off, e, hc⟩ := rd_at h (by rw [pfV_len]; omega)
  refine ⟨b, off, e, fun k hk => ?_⟩
  obtain ⟨h1, h2⟩ := pfV_get l k hk
  exact ⟨hc _ _ (by rw [Nat.mul_comm]; exact h1), by rw [Nat.add_assoc]; exact hc _ _ (by rw [Nat.mul_comm]; exact h2)⟩

/-- The number lies in the range. -/
def wiB (n l m : Int) : Bool := decide (l ≤ n) && decide (n ≤ m)
theorem wiB_t {n l m : Int} (h : wiB n l m = true) : l ≤ n ∧ n ≤ m := by simpa [wiB] using h
theorem wiB_f {n l m : Int} (h : wiB n l m = false) : n < l ∨ m < n := by
  rcases Int.lt_or_le n l with h1 | h1
  · exact .inl h1
  · rcases Int.lt_or_le m n with h2 | h2
    · exact .inr h2
    · rw [wiB, decide_eq_true h1, decide_eq_true h2] at h; cases h

set_option maxHeartbeats 800000 in
theorem within_any (n l m : Int) (w : World) : Calls Try.prog 40 #[.int .i64 n, .int .i64 l, .int .i64 m] w fun e w' => e = .returned (.bool (wiB n l m)) ∧ w = w' := by
  by_cases h1 : l ≤ n
  · have e : wiB n l m = decide (n ≤ m) := by simp [wiB, h1]
    rw [e]; clear e
    go_enter Try.func40, Try.ntmps40
    go_wp2_with fail
    all_goals (first | done | go_ret)
    all_goals exact ⟨rfl, rfl⟩
  · have e : wiB n l m = false := by simp [wiB, h1]
    rw [e]; clear e
    go_enter Try.func40, Try.ntmps40
    go_wp2_with fail
    all_goals (first | done | go_ret)
    all_goals exact ⟨rfl, rfl⟩

/-! ### Which advertisements are valid -/
def AdGood (o : Int) (l : List Ad) (n : Nat) : Prop := ∀ k x, k < n → l[k]? = some x → (0 ≤ x.2.1 ∧ x.2.1 ≤ 255) ∧ x.1 ≠ o ∧ (0 ≤ x.1 ∧ x.1 ≤ 63) ∧ (1 ≤ x.2.2 ∧ x.2.2 ≤ 65535) ∧ (∀ y, 0 < k → l[k - 1]? = some y → y.2.1 < x.2.1)
def PfGood (l : List Pf) (n : Nat) : Prop := ∀ k x, k < n → l[k]? = some x → pfxB x.1 x.2 = true ∧ (∀ y, 0 < k → l[k - 1]? = some y → cmpP y.1 y.2 x.1 x.2 < 0)
def LaValid (x : La) : Prop := (0 ≤ x.o ∧ x.o ≤ 63) ∧ (1 ≤ x.s ∧ x.s ≤ 1073741824) ∧ (0 ≤ x.a ∧ x.a ≤ 3600) ∧ x.adj.length ≤ 256 ∧ x.pre.length ≤ 64 ∧ (x.a = 3600 → x.ov = false ∧ x.adj = [] ∧ x.pre = []) ∧ AdGood x.o x.adj x.adj.length ∧ PfGood x.pre x.pre.length
open Classical in
noncomputable def vB (x : La) : Bool := decide (LaValid x)
theorem vB_f {x : La} (h : ¬ LaValid x) : vB x = false := by classical exact decide_eq_false h
theorem vB_t {x : La} (h : LaValid x) : vB x = true := by classical exact decide_eq_true h
theorem vB_iff {x : La} : vB x = true ↔ LaValid x := by classical exact decide_eq_true_iff
theorem AdGood.snoc {o : Int} {l : List Ad} {k : Nat} (h : AdGood o l k) {x : Ad} (hx : l[k]? = some x) (h1 : 0 ≤ x.2.1 ∧ x.2.1 ≤ 255) (h2 : x.1 ≠ o) (h3 : 0 ≤ x.1 ∧ x.1 ≤ 63) (h4 : 1 ≤ x.2.2 ∧ x.2.2 ≤ 65535) (h5 : ∀ y, 0 < k → l[k - 1]? = some y → y.2.1 < x.2.1) : AdGood o l (k + 1) := by
  intro j y hj hy
  rcases Nat.lt_or_ge j k with hlt | hge
  · exact h j y hlt hy
  · obtain rfl : j = k := by omega
    rw [hx] at hy; injection hy with hy; subst hy
    exact ⟨h1, h2, h3, h4, h5⟩
theorem PfGood.snoc {l : List Pf} {k : Nat} (h : PfGood l k) {x : Pf} (hx : l[k]? = some x) (h1 : pfxB x.1 x.2 = true) (h5 : ∀ y, 0 < k → l[k - 1]? = some y → cmpP y.1 y.2 x.1 x.2 < 0) : PfGood l (k + 1) := by
  intro j y hj hy
  rcases Nat.lt_or_ge j k with hlt | hge
  · exact h j y hlt hy
  · obtain rfl : j = k := by omega
    rw [hx] at hy; injection hy with hy; subst hy
    exact ⟨h1, h5⟩

end Go.Proofs.Ytnfldccaeibcpaa
