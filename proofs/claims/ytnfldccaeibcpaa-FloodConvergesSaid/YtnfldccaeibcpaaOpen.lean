/-
  How the arguments of a statement read: for a type, a relation between plain data and the cells that hold it; and that whatever can be read as data stands in that relation.
-/
import Derived.Test.YtnfldccaeibcpaaMem
import Derived.ProofKit
import Derived.OpenShut
import Derived.ShutString
import Derived.ChangeOld
namespace Go.Proofs.Ytnfldccaeibcpaa
set_option linter.unusedVariables false
open Go.RowKit Go.ChangeShapes Go.WideShapes Go.ChangeAt

/-- A list of things, each of s cells. -/
def Rep {α : Type} (R : α → List Value → Prop) (s : Nat) : List α → List Value → Prop
  | [], vs => vs = []
  | x :: xs, vs => ∃ c r, vs = c ++ r ∧ R x c ∧ c.length = s ∧ Rep R s xs r

section
variable {α : Type} {R : α → List Value → Prop} {s : Nat}
theorem Rep.length {xs : List α} : ∀ {vs : List Value}, Rep R s xs vs → vs.length = xs.length * s := by
  induction xs with
  | nil => intro vs h; simp [Rep] at h; simp [h]
  | cons x xs ih =>
    rintro vs ⟨c, r, rfl, _, hc, hr⟩
    rw [List.length_append, hc, ih hr, List.length_cons, Nat.add_mul]; omega
theorem Rep.append {xs ys : List α} : ∀ {vs us : List Value}, Rep R s xs vs → Rep R s ys us → Rep R s (xs ++ ys) (vs ++ us) := by
  induction xs with
  | nil => intro vs us h h2; simp [Rep] at h; subst h; simpa using h2
  | cons x xs ih =>
    rintro vs us ⟨c, r, rfl, h1, hc, hr⟩ h2
    exact ⟨c, r ++ us, by simp, h1, hc, ih hr h2⟩
theorem Rep.one {x : α} {c : List Value} (h : R x c) (hc : c.length = s) : Rep R s [x] c := ⟨c, [], by simp, h, hc, rfl⟩
theorem Rep.get {xs : List α} : ∀ {vs : List Value}, Rep R s xs vs → ∀ k (hk : k < xs.length), ∃ c, R xs[k] c ∧ c.length = s ∧ (vs.drop (k * s)).take s = c := by
  induction xs with
  | nil => intro vs _ k hk; simp at hk
  | cons x xs ih =>
    rintro vs ⟨c, r, rfl, h1, hc, hr⟩ k hk
    cases k with
    | zero => exact ⟨c, h1, hc, by simp [← hc]⟩
    | succ k =>
      obtain ⟨c', h2, h3, h4⟩ := ih hr k (by simpa using hk)
      refine ⟨c', by simpa using h2, h3, ?_⟩
      rw [← h4, Nat.add_mul, Nat.one_mul, Nat.add_comm (k * s) s, ← List.drop_drop]
      congr 2
      rw [← hc, List.drop_left]
theorem Rep.drop {xs : List α} : ∀ {vs : List Value}, Rep R s xs vs → ∀ k, Rep R s (xs.drop k) (vs.drop (k * s)) := by
  induction xs with
  | nil => intro vs h k; simp [Rep] at h; simp [h, Rep]
  | cons x xs ih =>
    intro vs h k
    cases k with
    | zero => simpa using h
    | succ k =>
      obtain ⟨c, r, rfl, h1, hc, hr⟩ := h
      have := ih hr k
      rw [Nat.add_mul, Nat.one_mul, Nat.add_comm (k * s) s, List.drop_succ_cons, ← List.drop_drop (l := c ++ r)]
      rw [show (c ++ r).drop s = r from by rw [← hc, List.drop_left]]
      exact this
theorem Rep.take {xs : List α} : ∀ {vs : List Value}, Rep R s xs vs → ∀ k, Rep R s (xs.take k) (vs.take (k * s)) := by
  induction xs with
  | nil => intro vs h k; simp [Rep] at h; simp [h, Rep]
  | cons x xs ih =>
    intro vs h k
    cases k with
    | zero => simp [Rep]
    | succ k =>
      obtain ⟨c, r, rfl, h1, hc, hr⟩ := h
      have := ih hr k
      refine ⟨c, r.take (k * s), ?_, h1, hc, this⟩
      rw [Nat.add_mul, Nat.one_mul, Nat.add_comm (k * s) s, ← hc, List.take_length_add_append]
theorem Rep.mono {R' : α → List Value → Prop} (hR : ∀ x c, R x c → R' x c) {xs : List α} : ∀ {vs : List Value}, Rep R s xs vs → Rep R' s xs vs := by
  induction xs with
  | nil => intro vs h; exact h
  | cons x xs ih =>
    rintro vs ⟨c, r, e, h1, hc, hr⟩
    exact ⟨c, r, e, hR _ _ h1, hc, ih hr⟩
end

/-! ### The relations -/
def IsInt (k : IntKind) (n : Int) (cs : List Value) : Prop := cs = [.int k n] ∧ (Lit.int k n).wf = true
def IsBool (b : Bool) (cs : List Value) : Prop := cs = [.bool b]
def IsU8 (b : UInt8) (cs : List Value) : Prop := cs = [u8v b]
/-- A slice of things of s cells. -/
def IsSlice {α : Type} (w : World) (R : α → List Value → Prop) (s : Nat) (xs : List α) (cs : List Value) : Prop :=
  ∃ A c vs, cs = [.slice A xs.length c] ∧ xs.length ≤ c ∧ c ≤ maxLen ∧ Rep R s xs vs ∧ Rd w A vs
/-- A pair, a triple .. of things that lie one after the other. -/
def IsTwo {α β : Type} (R : α → List Value → Prop) (S : β → List Value → Prop) (x : α × β) (cs : List Value) : Prop := ∃ c d, cs = c ++ d ∧ R x.1 c ∧ S x.2 d
/-- A slice of bytes. -/
def IsBytes (w : World) (bs : List UInt8) (cs : List Value) : Prop := ∃ A c, cs = [.slice A bs.length c] ∧ bs.length ≤ c ∧ c ≤ maxLen ∧ Bs w A bs

theorem rep_u8 {bs : List UInt8} : ∀ {vs : List Value}, Rep IsU8 1 bs vs → vs = bs.map u8v := by
  induction bs with
  | nil => intro vs h; simpa [Rep] using h
  | cons b bs ih =>
    rintro vs ⟨c, r, rfl, h1, _, hr⟩
    rw [ih hr, h1]; rfl
theorem u8_rep (bs : List UInt8) : Rep IsU8 1 bs (bs.map u8v) := by
  induction bs with
  | nil => rfl
  | cons b bs ih => exact ⟨[u8v b], bs.map u8v, rfl, rfl, rfl, ih⟩
theorem IsBytes.of_slice {w : World} {bs : List UInt8} {cs : List Value} (h : IsSlice w IsU8 1 bs cs) : IsBytes w bs cs := by
  obtain ⟨A, c, vs, h1, h2, h3, h4, h5⟩ := h
  exact ⟨A, c, h1, h2, h3, by rw [rep_u8 h4] at h5; exact h5⟩

/-! ### Whatever reads as data stands in the relation -/
def Opens (P : Program) (w : World) (t : TypeId) {α : Type} (R : α → List Value → Prop) : Prop :=
  ∀ {H : Type} {enc : TypeId × Value → H} {base : Nat} {spare : Nat → Bool} {held : Bool} {fuel : Nat} {cs : List Value} {x : DataW H × List MemPlace},
    DataW.trod enc P w base spare held fuel t cs = some x → ∃ a, R a cs ∧ cs.length = P.cellsOf t

section
variable {P : Program} {w : World} {t : TypeId}
theorem opens_int {k : IntKind} (ht : P.underlying t = some (.int k)) (hc : P.cellsOf t = 1) : Opens P w t (IsInt k) := by
  intro H enc base spare held fuel cs x h
  obtain ⟨n, rfl, _, hw⟩ := DataW.trod_int ht h
  exact ⟨n, ⟨rfl, hw⟩, by simp [hc]⟩
theorem opens_bool (ht : P.underlying t = some .bool) (hc : P.cellsOf t = 1) : Opens P w t IsBool := by
  intro H enc base spare held fuel cs x h
  obtain ⟨n, rfl, _⟩ := DataW.trod_bool ht h
  exact ⟨n, rfl, by simp [hc]⟩
theorem opens_u8 (ht : P.underlying t = some (.int .u8)) (hc : P.cellsOf t = 1) : Opens P w t IsU8 := by
  intro H enc base spare held fuel cs x h
  obtain ⟨n, rfl, _, hw⟩ := DataW.trod_int ht h
  obtain ⟨h0, h1⟩ := bounds_u8 hw
  exact ⟨UInt8.ofNat n.toNat, by rw [IsU8, u8_ofInt h0 (by omega)], by simp [hc]⟩
theorem opens_slice {α : Type} {R : α → List Value → Prop} {e : TypeId} (ht : P.underlying t = some (.slice e)) (hc : P.cellsOf t = 1) (hR : Opens P w e R) : Opens P w t (IsSlice w R (P.cellsOf e)) := by
  intro H enc base spare held fuel cs x h
  rcases DataW.trod_slice ht h with ⟨rfl, _⟩ | ⟨a, len, cap, elems, rest, n, _, rfl, _, _, hlc, hcm, hel, hat, _, _⟩
  · exact ⟨[], ⟨none, 0, [], rfl, Nat.le_refl _, Nat.zero_le _, rfl, Rd.nil _ _⟩, by simp [hc]⟩
  · -- each element
    have hone : ∀ i, i < len → ∃ (b : α) (c : List Value), R b c ∧ c.length = P.cellsOf e ∧ ∀ j u, c[j]? = some u → w.cell? (a.add (i * P.cellsOf e + j)) = some u := by
      intro i hi
      have h1 := hat i hi
      rw [List.getElem?_eq_getElem (by omega)] at h1
      obtain ⟨c, hcc, htr⟩ := Option.bind_eq_some_iff.1 h1
      obtain ⟨_, hl, hcell⟩ := World.cells?_some hcc
      obtain ⟨b, hb, _⟩ := hR htr
      refine ⟨b, c, hb, hl, fun j u hu => ?_⟩
      have hj : j < P.cellsOf e := by have := (List.getElem?_eq_some_iff.1 hu).1; omega
      rw [← addr_add_add, hcell j hj, hu]
    have hall : ∀ m, m ≤ len → ∃ (xs : List α) (vs : List Value), xs.length = m ∧ Rep R (P.cellsOf e) xs vs ∧ ∀ j u, vs[j]? = some u → w.cell? (a.add j) = some u := by
      intro m
      induction m with
      | zero => intro _; exact ⟨[], [], rfl, rfl, by simp⟩
      | succ m ih =>
        intro hm
        obtain ⟨xs, vs, hl, hrep, hcl⟩ := ih (by omega)
        obtain ⟨b, c, hb, hl2, hc2⟩ := hone m (by omega)
        refine ⟨xs ++ [b], vs ++ c, by simp [hl], hrep.append (Rep.one hb hl2), fun j u hu => ?_⟩
        have hlv := hrep.length
        rw [hl] at hlv
        rw [List.getElem?_append] at hu
        split at hu
        · exact hcl j u hu
        · have := hc2 _ u hu
          rw [show m * P.cellsOf e + (j - vs.length) = j from by omega] at this
          exact this
    obtain ⟨xs, vs, hl, hrep, hcl⟩ := hall len (Nat.le_refl _)
    exact ⟨xs, ⟨some a, cap, vs, by rw [hl], by omega, hcm, hrep, fun _ => ⟨a, rfl, hcl⟩⟩, by simp [hc]⟩
theorem opens_bytes {e : TypeId} (ht : P.underlying t = some (.slice e)) (hc : P.cellsOf t = 1) (he : P.underlying e = some (.int .u8)) (hce : P.cellsOf e = 1) : Opens P w t (IsBytes w) := by
  intro H enc base spare held fuel cs x h
  obtain ⟨bs, hb, hl⟩ := opens_slice ht hc (opens_u8 he hce) h
  rw [hce] at hb
  exact ⟨bs, IsBytes.of_slice hb, hl⟩
theorem opens_arr2 {α : Type} {R : α → List Value → Prop} {e : TypeId} (ht : P.underlying t = some (.array 2 e)) (hC : P.cellsOf t = 2 * P.cellsOf e) (hR : Opens P w e R) : Opens P w t (IsTwo R R) := by
  intro H enc base spare held fuel cs x h
  obtain ⟨xs, m, _, _, hcl, hl, hi⟩ := DataW.trod_array ht h
  have h0 := hi 0 (by omega)
  have h1 := hi 1 (by omega)
  rw [List.getElem?_eq_getElem (by omega)] at h0 h1
  obtain ⟨a, ra, _⟩ := hR h0
  obtain ⟨b, rb, _⟩ := hR h1
  refine ⟨(a, b), ⟨_, _, ?_, ra, rb⟩, hcl⟩
  simp only [Nat.zero_mul, List.drop_zero, Nat.one_mul]
  rw [List.take_of_length_le (l := cs.drop _) (by rw [List.length_drop]; omega), List.take_append_drop]
theorem opens_struct2 {α β : Type} {R : α → List Value → Prop} {S : β → List Value → Prop} {f g : Field} (ht : P.underlying t = some (.struct #[f, g])) (hf : f.offset = 0) (hg : g.offset = P.cellsOf f.type)
    (hC : P.cellsOf t = P.cellsOf f.type + P.cellsOf g.type) (hR : Opens P w f.type R) (hS : Opens P w g.type S) : Opens P w t (IsTwo R S) := by
  intro H enc base spare held fuel cs x h
  obtain ⟨xs, n, _, _, hcl, hl, hi⟩ := DataW.trod_struct ht h
  simp at hl
  have h0 := hi 0 f rfl
  have h1 := hi 1 g rfl
  rw [List.getElem?_eq_getElem (by omega)] at h0 h1
  obtain ⟨a, ra, _⟩ := hR h0
  obtain ⟨b, rb, _⟩ := hS h1
  refine ⟨(a, b), ⟨_, _, ?_, ra, rb⟩, hcl⟩
  rw [hf, hg, List.drop_zero]
  rw [List.take_of_length_le (l := cs.drop _) (by rw [List.length_drop]; omega), List.take_append_drop]
end

/-- An argument of one cell. -/
theorem arg_one {v u : Value} (h : v.cells.toList = [u]) (hv : ∀ cs, v ≠ .agg cs) : v = u := by
  cases v <;> simp_all [Value.cells]

end Go.Proofs.Ytnfldccaeibcpaa
