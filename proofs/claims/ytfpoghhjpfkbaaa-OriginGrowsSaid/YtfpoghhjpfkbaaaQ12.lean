/-
  The texts OrgAs, OrgG, OrgGl, one after the other.
-/
import Derived.Test.YtfpoghhjpfkbaaaQ11
namespace Go.Proofs.Ytfpoghhjpfkbaaa
set_option linter.unusedVariables false
open Go.RowKit Go.Sort Go.ChangeShapes Go.WideShapes Go.ChangeAt

/-- A step's cells. -/
def IsStep (w : World) (x : Int × Int × La) (cs : List Value) : Prop := ∃ cs', cs = .int .i64 x.1 :: .int .i64 x.2.1 :: cs' ∧ IsLa w x.2.2 cs'
theorem opens_s3 {P : Program} {w : World} {t : TypeId} {γ : Type} {T : γ → List Value → Prop} {f g h : Field} (ht : P.underlying t = some (.struct #[f, g, h])) (hf : f.offset = 0) (hg : g.offset = 1) (hh : h.offset = 2)
    (cf : P.cellsOf f.type = 1) (cg : P.cellsOf g.type = 1) (ch : P.cellsOf h.type = 6) (hC : P.cellsOf t = 8) (hR : Opens P w f.type (IsInt .i64)) (hS : Opens P w g.type (IsInt .i64)) (hT : Opens P w h.type T) :
    Opens P w t (fun (x : Int × Int × γ) cs => ∃ cs', cs = .int .i64 x.1 :: .int .i64 x.2.1 :: cs' ∧ T x.2.2 cs') := by
  intro H enc base spare held fuel cs x hx
  obtain ⟨xs, n, _, _, hcl, hl, hi⟩ := DataW.trod_struct ht hx
  simp at hl
  have h0 := hi 0 f rfl
  have h1 := hi 1 g rfl
  have h2 := hi 2 h rfl
  rw [List.getElem?_eq_getElem (by omega)] at h0 h1 h2
  rw [hC] at hcl
  match cs, hcl with
  | [a, b, c0, c1, c2, c3, c4, c5], _ =>
    rw [hf, cf] at h0
    rw [hg, cg] at h1
    rw [hh, ch] at h2
    obtain ⟨p, ⟨rp, _⟩, _⟩ := hR h0
    obtain ⟨q, ⟨rq, _⟩, _⟩ := hS h1
    obtain ⟨r, rr, _⟩ := hT h2
    simp at rp rq
    subst rp rq
    exact ⟨(p, q, r), ⟨[c0, c1, c2, c3, c4, c5], rfl, rr⟩, by simp [hC]⟩
theorem rep_steps {w : World} {xs : List (Int × Int × La)} : ∀ {vs : List Value}, Rep (IsStep w) 8 xs vs → ∃ l : List Sx, vs = sxV l ∧ l.length = xs.length ∧ ∀ s ∈ l, SxOk w s := by
  induction xs with
  | nil => intro vs h; exact ⟨[], h, rfl, by simp⟩
  | cons b t ih =>
    rintro vs ⟨c, q, rfl, ⟨cs', rfl, hla, hl6⟩, _, hr⟩
    obtain ⟨l, rfl, hl, hok⟩ := ih hr
    obtain ⟨A, cc, B, d, hv, hat⟩ := hla.opened
    have hcs : cs' = [.int .i64 b.2.2.o, .int .i64 b.2.2.s, .int .i64 b.2.2.a, .bool b.2.2.ov, .slice A b.2.2.adj.length cc, .slice B b.2.2.pre.length d] := by
      simp only [laV, Value.agg.injEq] at hv
      have := congrArg Array.toList hv
      simpa using this
    subst hcs
    refine ⟨⟨b.1, b.2.1, b.2.2, A, cc, B, d⟩ :: l, rfl, by simp [hl], fun s hs => ?_⟩
    rcases List.mem_cons.1 hs with rfl | hs
    · exact hat
    · exact hok s hs

section
variable {H : Type} {enc : TypeId × Value → H} {w : World} {base : Nat} {spare : Nat → Bool} {held : Bool} {r : Reach} {b0 : Nat} {v : Value} {d : DataW H} {ps : List MemPlace}
set_option maxRecDepth 100000 in
theorem arg_steps (hv : Value.okWide Try.prog w r b0 22 v) (h : DataW.Trod enc Try.prog w base spare held 22 v d ps) :
    ∃ (A : Option Addr) (n c : Nat) (l : List Sx), v = .slice A n c ∧ Rd w A (sxV l) ∧ l.length = n ∧ n ≤ maxLen ∧ ∀ s ∈ l, SxOk w s := by
  have OS : Opens Try.prog w 38 (IsStep w) := opens_s3 Try.underlying38 rfl rfl rfl (by kernel_rfl) (by kernel_rfl) (by kernel_rfl) (by kernel_rfl) (opens_int Try.underlying3 (by kernel_rfl)) (opens_int Try.underlying3 (by kernel_rfl)) (opens_la w)
  obtain ⟨A, n, c, x, rfl, A', c', vs, h1, h2, h3, h4, h5⟩ := arg_slice Try.underlying22 (opens_slice Try.underlying22 (by kernel_rfl) OS) hv h
  simp only [List.cons.injEq, Value.slice.injEq, and_true] at h1
  obtain ⟨rfl, rfl, rfl⟩ := h1
  rw [show Try.prog.cellsOf 38 = 8 from by kernel_rfl] at h4
  obtain ⟨l, rfl, hl, hok⟩ := rep_steps h4
  exact ⟨A, _, c, l, rfl, h5, hl, Nat.le_trans h2 h3, hok⟩
end

end Go.Proofs.Ytfpoghhjpfkbaaa

namespace Go.Proofs.Ytfpoghhjpfkbaaa
set_option linter.unusedVariables false
open Go.RowKit Go.Sort

/-- The state's advertisement is valid, if there is one. -/
def GOk (x : La) (mk : Bool) : Prop := (0 ≤ x.o ∧ x.o ≤ 63) ∧ (mk = true → LaValid x)
theorem num_valid2 {x : La} (h : LaValid x) (ha : x.a ≤ 3599) (s a : Int) (h1 : 1 ≤ s) (h2 : s ≤ 1073741824) (h3 : 0 ≤ a) (h4 : a ≤ 3599) : LaValid (num x.o s a x) := by
  obtain ⟨k1, k2, k3, k4, k5, k6, k7, k8⟩ := h
  exact ⟨k1, ⟨h1, h2⟩, ⟨h3, by simp only [num]; omega⟩, k4, k5, fun h => by simp only [num] at h; omega, k7, k8⟩
/-- What a step does to the numbers. -/
def Grew (x : La) (x' : La) (mk' md : Bool) : Prop := x.s ≤ x'.s ∧ x'.o = x.o ∧ GOk x' mk' ∧ Inv x' mk' ∧ Lens x' ∧ (md = true → mk' = true ∧ x.s < x'.s)
theorem Grew.same {x : La} {mk : Bool} (hi : Inv x mk) (hl : Lens x) (hg : GOk x mk) : Grew x x mk false := ⟨Int.le_refl _, rfl, hg, hi, hl, fun h => by cases h⟩
theorem grew_set {x y : La} {mk : Bool} (hi : Inv x mk) (hl : Lens x) (hg : GOk x mk) (hy : Lens y) : Grew x (setP x mk y).x (setP x mk y).now (setP x mk y).made := by
  obtain ⟨s0, s1, a0, a1, hc⟩ := id hi
  unfold setP
  by_cases hv : vB (num x.o 1 0 y) = true
  · rw [if_pos hv]
    by_cases hm : mk = true ∧ conB x y = true
    · rw [if_pos hm]; exact .same hi hl hg
    · rw [if_neg hm]
      by_cases hf : 1073741824 ≤ x.s
      · rw [if_pos hf]; exact .same hi hl hg
      · rw [if_neg hf]
        have hv2 := num_valid (vB_iff.1 hv) (x.s + 1) (by omega) (by omega)
        exact ⟨by simp only [num]; omega, rfl, ⟨hg.1, fun _ => hv2⟩, ⟨by simp only [num]; omega, by simp only [num]; omega, by simp [num], by simp [num], .inl (by simp [num])⟩, hy, fun _ => ⟨rfl, by simp only [num]; omega⟩⟩
  · rw [if_neg hv]; exact .same hi hl hg
theorem grew_hear {x a : La} {mk : Bool} (hi : Inv x mk) (hl : Lens x) (hg : GOk x mk) : Grew x (hearP x mk a).x (hearP x mk a).now (hearP x mk a).made ∧
    ((hearP x mk a).err = 0 → LaValid a ∧ a.s ≤ (hearP x mk a).x.s ∧ ((hearP x mk a).made = true → a.s < (hearP x mk a).x.s)) := by
  obtain ⟨s0, s1, a0, a1, hc⟩ := id hi
  unfold hearP
  by_cases hv : vB a = true ∧ a.o = x.o
  · rw [if_pos hv]
    have hva := vB_iff.1 hv.1
    cases mk with
    | true =>
      have hvx := hg.2 rfl
      have hord : a.s ≠ x.s → newI a x = cmpI a.s x.s := newI_s hva hvx
      have has := hva.2.1
      rw [if_pos rfl]
      by_cases hz : newI a x ≤ 0
      · rw [if_pos hz]
        refine ⟨.same hi hl hg, fun _ => ⟨hva, ?_, fun h => by cases h⟩⟩
        rcases Int.lt_or_le x.s a.s with h | h
        · rw [hord (by omega)] at hz
          unfold cmpI at hz
          split at hz <;> simp at hz <;> omega
        · exact h
      · rw [if_neg hz]
        have hle : x.s ≤ a.s := by
          rcases Int.lt_or_le a.s x.s with h | h
          · rw [hord (by omega)] at hz
            unfold cmpI at hz
            split at hz <;> simp at hz <;> omega
          · exact h
        by_cases hf : 1073741824 ≤ a.s
        · rw [if_pos hf]; exact ⟨.same hi hl hg, fun h => by cases h⟩
        · rw [if_neg hf]
          have hv2 := num_valid2 hvx a1 (a.s + 1) 0 (by omega) (by omega) (by omega) (by omega)
          exact ⟨⟨by simp only [num]; omega, rfl, ⟨hg.1, fun _ => hv2⟩, ⟨by simp only [num]; omega, by simp only [num]; omega, by simp [num], by simp [num], .inl (by simp [num])⟩, hl, fun _ => ⟨rfl, by simp only [num]; omega⟩⟩,
            fun _ => ⟨hva, by simp only [num]; omega, fun _ => by simp only [num]; omega⟩⟩
    | false =>
      rw [if_neg (by simp)]
      have has := hva.2.1
      refine ⟨⟨by simp only [num]; omega, rfl, ⟨hg.1, fun h => by cases h⟩, ⟨by simp only [num]; omega, by simp only [num]; omega, a0, a1, ?_⟩, hl, fun h => by cases h⟩, fun _ => ⟨hva, by simp only [num]; omega, fun h => by cases h⟩⟩
      rcases hc with h | h
      · exact .inl h
      · exact .inr (by simp only [num]; omega)
  · rw [if_neg hv]; exact ⟨.same hi hl hg, fun h => by cases h⟩
theorem grew_tick {x : La} {mk : Bool} (n : Int) (hi : Inv x mk) (hl : Lens x) (hg : GOk x mk) : Grew x (tickX x mk n) mk (tickB x mk n) := by
  cases mk with
  | false =>
    have e1 : tickX x false n = x := by unfold tickX; rw [if_neg (by simp)]
    have e2 : tickB x false n = false := by simp [tickB]
    rw [e1, e2]; exact .same hi hl hg
  | true =>
    by_cases h0 : 0 ≤ n
    · obtain ⟨hi2, hl2⟩ := tick_inv n hi hl
      rw [(tick_closed x n hi h0).1] at hi2 hl2 ⊢
      rw [(tick_closed x n hi h0).2]
      obtain ⟨s0, s1, a0, a1, hc⟩ := hi
      have h1 : 0 ≤ tS x n ∧ tS x n ≤ 1073741824 - x.s := by unfold tS; split <;> omega
      have hv := hg.2 rfl
      have hs := hv.2.1
      exact ⟨by simp only [num]; omega, rfl, ⟨hg.1, fun _ => num_valid2 hv a1 _ _ (by omega) (by omega) hi2.2.2.1 hi2.2.2.2.1⟩, hi2, hl2, fun h => ⟨rfl, by simp only [num]; have := of_decide_eq_true h; omega⟩⟩
    · have e1 : tickX x true n = x := by unfold tickX; rw [if_neg (by omega)]
      have e2 : tickB x true n = false := by
        have : decide (0 < n) = false := by simp; omega
        simp [tickB, this]
      rw [e1, e2]; exact .same hi hl hg

/-- A known advertisement as it lies in memory. -/
structure Kx where
  y : La
  A : Option Addr
  c : Nat
  B : Option Addr
  d : Nat
def kxL (s : Kx) : List Value := [.int .i64 s.y.o, .int .i64 s.y.s, .int .i64 s.y.a, .bool s.y.ov, .slice s.A s.y.adj.length s.c, .slice s.B s.y.pre.length s.d]
def kxV : List Kx → List Value
  | [] => []
  | s :: l => kxL s ++ kxV l
theorem kxV_len (l : List Kx) : (kxV l).length = l.length * 6 := by
  induction l with
  | nil => rfl
  | cons r l ih => simp only [kxV, kxL, List.length_append, List.length_cons, List.length_nil, ih]; omega
theorem kxV_append (a b : List Kx) : kxV (a ++ b) = kxV a ++ kxV b := by
  induction a with
  | nil => rfl
  | cons r l ih => simp only [List.cons_append, kxV, ih, List.append_assoc]
theorem kxV_get (l : List Kx) : ∀ (k : Nat) (hk : k < l.length) (j : Nat) (hj : j < 6), (kxV l)[6 * k + j]? = (kxL l[k])[j]? := by
  induction l with
  | nil => intro k hk; simp at hk
  | cons r l ih =>
    intro k hk j hj
    have h6 : (kxL r).length = 6 := rfl
    cases k with
    | zero => simp only [kxV, List.getElem_cons_zero]; rw [List.getElem?_append_left (by omega)]; simp
    | succ k =>
      simp only [kxV, List.getElem_cons_succ]
      rw [List.getElem?_append_right (by omega), h6, show 6 * (k + 1) + j - 6 = 6 * k + j by omega]
      exact ih k (by simpa using hk) j hj
/-- It can be read, and its slices do not lie in these blocks. -/
def KxOk (w : World) (g : Nat) (v : Value) (z : Kx) : Prop := LaAt w (laV z.y.o z.y.s z.y.a z.y.ov z.A z.y.adj.length z.c z.B z.y.pre.length z.d) z.y ∧
  (0 < z.y.adj.length → ∀ ad, z.A = some ad → ad.block ≠ g ∧ v.ownBlock ≠ some ad.block) ∧ (0 < z.y.pre.length → ∀ ad, z.B = some ad → ad.block ≠ g ∧ v.ownBlock ≠ some ad.block)
theorem Rd.keptRow {w w' : World} {A : Option Addr} {xs : List Value} {row : Option Nat} (h : Rd w A xs) (hg : w.grownBy w' row) (hf : 0 < xs.length → ∀ ad, A = some ad → row ≠ some ad.block) : Rd w' A xs := by
  intro hn
  obtain ⟨ad, e, hb⟩ := h.block hn
  obtain ⟨ad', e', hc⟩ := h hn
  rw [e] at e'
  injection e' with e'
  subst e'
  refine ⟨ad, e, fun j u hu => ?_⟩
  rw [World.cell?_of_block (hg.block _ (by rw [addr_add_block]; exact hb) (by rw [addr_add_block]; exact fun e2 => hf hn ad e e2.symm))]
  exact hc j u hu
theorem LaAt.keptRow {w w' : World} {z : Kx} {row : Option Nat} (h : LaAt w (laV z.y.o z.y.s z.y.a z.y.ov z.A z.y.adj.length z.c z.B z.y.pre.length z.d) z.y) (hg : w.grownBy w' row)
    (h1 : 0 < z.y.adj.length → ∀ ad, z.A = some ad → row ≠ some ad.block) (h2 : 0 < z.y.pre.length → ∀ ad, z.B = some ad → row ≠ some ad.block) :
    LaAt w' (laV z.y.o z.y.s z.y.a z.y.ov z.A z.y.adj.length z.c z.B z.y.pre.length z.d) z.y := by
  obtain ⟨A9, c9, B9, d9, e9, r1, r2, r3⟩ := h
  simp only [laV, Value.agg.injEq, Array.mk.injEq, List.cons.injEq, Value.slice.injEq, true_and, and_true] at e9
  obtain ⟨⟨rfl, rfl⟩, rfl, rfl⟩ := e9
  exact ⟨_, _, _, _, rfl, r1.keptRow hg (by rw [adV_len]; intro h; exact h1 (by omega)), r2.keptRow hg (by rw [pfV_len]; intro h; exact h2 (by omega)), r3⟩
theorem LaAt.lt {w : World} {z : Kx} (h : LaAt w (laV z.y.o z.y.s z.y.a z.y.ov z.A z.y.adj.length z.c z.B z.y.pre.length z.d) z.y) :
    (0 < z.y.adj.length → ∀ ad, z.A = some ad → ad.block < w.heap.size) ∧ (0 < z.y.pre.length → ∀ ad, z.B = some ad → ad.block < w.heap.size) := by
  obtain ⟨A9, c9, B9, d9, e9, r1, r2, r3⟩ := h
  simp only [laV, Value.agg.injEq, Array.mk.injEq, List.cons.injEq, Value.slice.injEq, true_and, and_true] at e9
  obtain ⟨⟨rfl, rfl⟩, rfl, rfl⟩ := e9
  constructor
  · intro h ad e
    obtain ⟨ad', e', hb⟩ := r1.block (by rw [adV_len]; omega)
    rw [e] at e'; injection e' with e'; subst e'; exact hb
  · intro h ad e
    obtain ⟨ad', e', hb⟩ := r2.block (by rw [pfV_len]; omega)
    rw [e] at e'; injection e' with e'; subst e'; exact hb
/-- The list of the known: a slice of the walk's own, the advertisements; none is newer than the floor. The originator's slices do not lie in it. -/
structure KnAt (w : World) (g : Nat) (v : Value) (ys : List Kx) (fl : Int) : Prop where
  own : w.ownsRow (g + 1) 32 6 v ys.length (kxV ys)
  ok : ∀ z ∈ ys, KxOk w g v z
  le : ∀ z ∈ ys, LaValid z.y ∧ z.y.s ≤ fl
  avoid : ∀ b, v.ownBlock = some b → Avoid w g b
theorem KnAt.below {w w' : World} {g : Nat} {v : Value} {ys : List Kx} {fl : Int} (h : KnAt w g v ys fl) (hg : g < w.heap.size) (hb : Below w.heap.size w w') : KnAt w' g v ys fl :=
  ⟨own_below h.own hb, fun z hz => ⟨(h.ok z hz).1.below hb, (h.ok z hz).2⟩, h.le, fun b e => (h.avoid b e).below hg hb⟩
theorem KnAt.up {w : World} {g : Nat} {v : Value} {ys : List Kx} {fl fl' : Int} (h : KnAt w g v ys fl) (hf : fl ≤ fl') : KnAt w g v ys fl' := ⟨h.own, h.ok, fun z hz => ⟨(h.le z hz).1, Int.le_trans (h.le z hz).2 hf⟩, h.avoid⟩
/-- Behind a call that turns the originator. -/
theorem KnAt.via {w w' : World} {g : Nat} {v : Value} {ys : List Kx} {fl : Int} (h : KnAt w g v ys fl) (hg : w.grownBy w' (some g)) (hk : Keeps w w' g) : KnAt w' g v ys fl := by
  have hne : ∀ b, v.ownBlock = some b → b < w.heap.size ∧ b ≠ g := fun b e => by
    have := h.own.lt b e
    exact ⟨this.2, by omega⟩
  refine ⟨?_, fun z hz => ?_, h.le, fun b e => hk b (hne b e).1 (h.avoid b e)⟩
  · refine ⟨h.own.1, ?_⟩
    rcases h.own.2 with h2 | ⟨b, cap, cur, rfl, hb, hh, r⟩
    · exact .inl h2
    · exact .inr ⟨b, cap, cur, rfl, hb, (hg.block b (h.own.lt b rfl).2 (fun e => by injection e with e; omega)).trans hh, r⟩
  · obtain ⟨k1, k2, k3⟩ := h.ok z hz
    exact ⟨k1.keptRow hg (fun hn ad e e2 => (k2 hn ad e).1 (by injection e2 with e2; exact e2.symm)) (fun hn ad e e2 => (k3 hn ad e).1 (by injection e2 with e2; exact e2.symm)), k2, k3⟩
/-- .. the originator behind an append. -/
theorem OrAt.row {w w' : World} {g : Nat} {x : La} {mk : Bool} {row : Option Nat} (h : OrAt w g x mk) (hg : w.grownBy w' row) (hne : row ≠ some g) (ha : ∀ b, row = some b → Avoid w g b) : OrAt w' g x mk := by
  obtain ⟨A, c, B, d, h0, h1, h2, h3, h4, h5, h6, h7, h8, h9⟩ := h
  exact ⟨A, c, B, d, h0.kept hg (fun e => hne e.symm) (by simp), h1.keptRow hg (fun hn ad e e2 => ha ad.block e2 A _ c (by rw [adV_len] at hn; omega) (.inl (h0.c 1 rfl)) ad e rfl),
    h2.keptRow hg (fun hn ad e e2 => ha ad.block e2 B _ d (by rw [pfV_len] at hn; omega) (.inr (h0.c 2 rfl)) ad e rfl), h3, h4, h5, h6, h7, h8, h9⟩
theorem Keeps.row {w w' : World} {g : Nat} {row : Option Nat} (hg : w.grownBy w' row) (hne : row ≠ some g) (hl : g < w.heap.size) : Keeps w w' g :=
  .of_cells (World.cell?_of_block (a := ⟨g, 1, none⟩) (hg.block g hl (fun e => hne e.symm))) (World.cell?_of_block (a := ⟨g, 2, none⟩) (hg.block g hl (fun e => hne e.symm)))
/-- Behind an append. -/
theorem KnAt.snoc {w w' : World} {g : Nat} {v v' : Value} {ys : List Kx} {fl : Int} {x : La} {mk : Bool} (h : KnAt w g v ys fl) (ho : OrAt w g x mk) {z : Kx} (hz : KxOk w g v z) (hz2 : LaValid z.y ∧ z.y.s ≤ fl)
    (hown : w'.ownsRow (g + 1) 32 6 v' (ys.length + 1) (kxV ys ++ kxL z)) (hg : w.grownBy w' v.ownBlock) (hnew : v'.ownBlock = v.ownBlock ∨ v'.ownBlock = some w.heap.size) : KnAt w' g v' (ys ++ [z]) fl ∧ OrAt w' g x mk := by
  have hk : ∀ y ∈ ys ++ [z], KxOk w g v y := fun y hy => by
    rcases List.mem_append.1 hy with hy | hy
    · exact h.ok y hy
    · rw [List.mem_singleton.1 hy]; exact hz
  have hgl := ho.lt
  have hne : v.ownBlock ≠ some g := fun e => by have := h.own.lt g e; omega
  have hkp := Keeps.row hg hne hgl
  refine ⟨⟨by rw [kxV_append, List.length_append]; simpa [kxV] using hown, fun y hy => ?_, fun y hy => ?_, fun b e => ?_⟩, ho.row hg hne h.avoid⟩
  · obtain ⟨k1, k2, k3⟩ := hk y hy
    refine ⟨k1.keptRow hg (fun hn ad e => (k2 hn ad e).2) (fun hn ad e => (k3 hn ad e).2), fun hn ad e => ⟨(k2 hn ad e).1, ?_⟩, fun hn ad e => ⟨(k3 hn ad e).1, ?_⟩⟩
    · rcases hnew with e2 | e2
      · rw [e2]; exact (k2 hn ad e).2
      · rw [e2]; intro e3; injection e3 with e3; have := k1.lt.1 hn ad e; omega
    · rcases hnew with e2 | e2
      · rw [e2]; exact (k3 hn ad e).2
      · rw [e2]; intro e3; injection e3 with e3; have := k1.lt.2 hn ad e; omega
  · rcases List.mem_append.1 hy with hy | hy
    · exact h.le y hy
    · rw [List.mem_singleton.1 hy]; exact hz2
  · rcases hnew with e2 | e2
    · rw [e2] at e; exact hkp b (h.own.lt b e).2 (h.avoid b e)
    · rw [e2] at e; injection e with e; subst e
      intro A n c hn hc ad hA
      have := (Avoid.new ho (Nat.le_refl _)) A n c hn (by
        rcases hc with hc | hc
        · exact .inl (by rw [← World.cell?_of_block (a := ⟨g, 1, none⟩) (hg.block g hgl (fun e => hne e.symm))]; exact hc)
        · exact .inr (by rw [← World.cell?_of_block (a := ⟨g, 2, none⟩) (hg.block g hgl (fun e => hne e.symm))]; exact hc)) ad hA
      exact this
/-- What is made is newer than all that is known. -/
theorem newer_all {ys : List Kx} {fl : Int} {x : La} (hx : LaValid x) (hs : fl < x.s) {k : Nat} (hk : k < ys.length) (h : ∀ z ∈ ys, LaValid z.y ∧ z.y.s ≤ fl) : newI x ys[k].y = 1 := by
  obtain ⟨h1, h2⟩ := h ys[k] (List.getElem_mem hk)
  rw [newI_s hx h1 (by omega)]
  unfold cmpI
  rw [if_neg (by omega), if_pos (by omega)]

end Go.Proofs.Ytfpoghhjpfkbaaa

namespace Go.Proofs.Ytfpoghhjpfkbaaa
set_option linter.unusedVariables false
open Go.RowKit Go.Sort

/-- What holds before each round. -/
def GMid (wr : World) (g : Nat) (x : La) (mk : Bool) (v : Value) (ys : List Kx) (nd : Int) : Prop :=
  OrAt wr g x mk ∧ Inv x mk ∧ Lens x ∧ GOk x mk ∧ x.o = nd ∧ KnAt wr g v ys x.s
theorem GMid.below {w w' : World} {g : Nat} {x : La} {mk : Bool} {v : Value} {ys : List Kx} {nd : Int} (h : GMid w g x mk v ys nd) (hb : Below w.heap.size w w') : GMid w' g x mk v ys nd :=
  ⟨h.1.below hb, h.2.1, h.2.2.1, h.2.2.2.1, h.2.2.2.2.1, h.2.2.2.2.2.below h.1.lt hb⟩
theorem laT : ElemT Try.prog 45 32 (.agg #[.int .i64 0, .int .i64 0, .int .i64 0, .bool false, .slice none 0 0, .slice none 0 0]) 6 80 := ⟨Try.underlying45, by kernel_rfl, rfl, by omega⟩
theorem kxL_one (z : Kx) : ∀ u ∈ kxL z, u.oneCell' = true := by simp [kxL, Value.oneCell']
theorem rd_kx {w : World} {A : Option Addr} {l : List Kx} (h : Rd w A (kxV l)) (hn : 0 < l.length) :
    ∃ b off, A = some ⟨b, off, none⟩ ∧ ∀ k (hk : k < l.length) j (u : Value), j < 6 → (kxL l[k])[j]? = some u → w.cell? ⟨b, off + k * 6 + j, none⟩ = some u := by
  obtain ⟨b, off, e, hc⟩ := rd_at h (by rw [kxV_len]; omega)
  refine ⟨b, off, e, fun k hk j u hj hu => ?_⟩
  rw [Nat.add_assoc]
  exact hc _ _ (by rw [Nat.mul_comm k 6, kxV_get l k hk j hj]; exact hu)
/-- An advertisement that was made in a call, beside what was there before. -/
theorem KxOk.made {w : World} {base g : Nat} {v : Value} {y : La} {A : Option Addr} {c : Nat} {B : Option Addr} {d : Nat} (h : LaOwn w base (laV y.o y.s y.a y.ov A y.adj.length c B y.pre.length d) y) (hg : g < base) (hv : ∀ b, v.ownBlock = some b → b < base) : KxOk w g v ⟨y, A, c, B, d⟩ := by
  obtain ⟨A9, c9, B9, d9, e9, o1, o2, hu⟩ := id h
  simp only [laV, Value.agg.injEq, Array.mk.injEq, List.cons.injEq, Value.slice.injEq, true_and, and_true] at e9
  obtain ⟨⟨rfl, rfl⟩, rfl, rfl⟩ := e9
  exact ⟨h.at, fun _ ad e => ⟨by have := (own_read o1).2.2.2 ad e; omega, fun e2 => by have := (own_read o1).2.2.2 ad e; have := hv _ e2; omega⟩,
    fun _ ad e => ⟨by have := (own_read o2).2.2.2 ad e; omega, fun e2 => by have := (own_read o2).2.2.2 ad e; have := hv _ e2; omega⟩⟩
theorem KxOk.below {w w' : World} {g : Nat} {v : Value} {z : Kx} (h : KxOk w g v z) (hb : Below w.heap.size w w') : KxOk w' g v z := ⟨h.1.below hb, h.2⟩
/-- .. behind the switch. -/
def GAfter (W : World) (g : Nat) (x : La) (nd : Int) (m : Nat) (v8 v12 : Value) (wx : World) : Prop :=
  ∃ x' mk' ys md, v12 = .bool md ∧ GMid wx g x' mk' v8 ys nd ∧ x.s ≤ x'.s ∧ (md = true → mk' = true ∧ ∀ z ∈ ys, z.y.s < x'.s) ∧ ys.length ≤ m + 1 ∧ Below W.heap.size W wx
/-- A step that turned the originator alone. -/
theorem GAfter.of {W w w' : World} {g : Nat} {x x' : La} {mk mk' md : Bool} {v : Value} {ys : List Kx} {nd : Int} {m : Nat} (h : GMid w g x mk v ys nd) (ho : OrAt w' g x' mk') (hg : w.grownBy w' (some g)) (hk : Keeps w w' g) (hgr : Grew x x' mk' md) (hys : ys.length ≤ m) (hW : W.heap.size ≤ g) (hb : Below W.heap.size W w) :
    (GMid w' g x' mk' v ys nd ∧ (md = true → ∀ z ∈ ys, z.y.s < x'.s)) ∧ GAfter W g x nd m v (.bool md) w' := by
  obtain ⟨h1, h2, h3, h4, h5, h6⟩ := h
  obtain ⟨g1, g2, g3, g4, g5, g6⟩ := hgr
  have hm : GMid w' g x' mk' v ys nd := ⟨ho, g4, g5, g3, by rw [g2]; exact h5, (h6.via hg hk).up g1⟩
  exact ⟨⟨hm, fun e z hz => Int.lt_of_le_of_lt (h6.le z hz).2 (g6 e).2⟩, x', mk', ys, md, rfl, hm, g1, fun e => ⟨(g6 e).1, fun z hz => Int.lt_of_le_of_lt (h6.le z hz).2 (g6 e).2⟩, by omega, below_via hb hg hW hb.size⟩

set_option maxRecDepth 100000 in
set_option maxHeartbeats 12800000 in
theorem grows_law (w : World) (node : Int) (hnw : (Lit.int .u8 node).wf = true) (A : Option Addr) (n c : Nat) (l : List Sx) (hr : Rd w A (sxV l)) (hn : l.length = n) (hm : n ≤ maxLen) (hok : ∀ s ∈ l, SxOk w s) :
    Calls Try.prog 4 #[.int .u8 node, .slice A n c] w fun e w' => e = .returned (.bool true) ∧ Below w.heap.size w w' := by
  have ⟨hn0, hn1⟩ := bounds_u8 hnw
  clear hnw
  have FW := fun W (hb : Below w.heap.size w W) => lfew_any W A n c l (hr.below hb) hn hm (fun s hs => (hok s hs).below hb)
  have S := (St.start w).read hr
  unfold maxLen at hm
  replace hn := Lib.hid hn
  replace hok := Lib.hid hok
  replace FW := Lib.hid FW
  clear hr
  go_enter Try.func4, Try.ntmps4
  go_wp2_with fail
  (with_reducible refine (awake_any _).mono ?_)
  rintro e w1 ⟨rfl, hb⟩
  replace S := S.call hb
  clear hb
  go_wp2_with fail
  (with_reducible refine (FW.out _ S.b).mono ?_)
  rintro e w2 ⟨b, rfl, hsm, hb⟩
  replace S := S.call hb
  clear hb FW
  cases b with
  | false =>
    go_wp2_with fail
    go_ret
    exact ⟨rfl, S.b⟩
  | true =>
  have hsm2 : Hid (Small l) := hsm rfl
  clear hsm
  obtain ⟨nd, hnd⟩ : ∃ nd, node % 64 = nd := ⟨_, rfl⟩
  have hnd0 : 0 ≤ nd := by omega
  have hnd1 : nd < 64 := by omega
  have N := onew_ok w2 nd hnd0 hnd1
  unfold OrNew at N
  replace N := Lib.hid N
  have hgs := S.b.size
  go_wp2_with fail
  rw [hnd]
  clear hnd
  (with_reducible refine (N.out).mono ?_)
  rintro e w3 ⟨rfl, oat, hb⟩
  clear N
  replace S := S.call hb
  clear hb
  generalize w2.heap.size = g at *
  have hglt := oat.lt
  have hmid : Hid (GMid w3 g ⟨nd, 0, 0, false, [], []⟩ false (.slice none 0 0) [] nd) :=
    ⟨oat, ⟨by simp, by simp, by simp, by simp, .inl (by simp)⟩, ⟨by simp, by simp⟩, ⟨⟨hnd0, by simp only; omega⟩, fun h => by cases h⟩, rfl, ⟨World.ownsRow_nil _ _ _ _, by simp, by simp, fun b h => by simp [Value.ownBlock] at h⟩⟩
  clear oat hn0 hn1 hglt
  go_wp2_with fail
  go_loopw [8, 9, 10] (fun v8 v9 v10 wr => ∃ (k : Nat) (x : La) (mk : Bool) (ys : List Kx), v10 = .int .i64 k ∧ v9 = .int .i64 x.s ∧ k ≤ n ∧ ys.length ≤ 2 * k ∧ St w wr [] [(A, sxV l)] ∧ Hid (GMid wr g x mk v8 ys nd)) (fun _ _ v10 _ => n - (intOf v10).toNat)
  case atStart => exact ⟨0, ⟨nd, 0, 0, false, [], []⟩, false, [], rfl, rfl, by omega, by simp, S, hmid⟩
  case round =>
    clear S hmid
    obtain ⟨k, x, mk, ys, rfl, rfl, hk, hys, S, hmid⟩ := hrel
    by_cases hkn : k < n
    · have hkl : k < l.length := by rw [hn.out]; exact hkn
      have hn15 : n ≤ 15 := by rw [← hn.out]; exact hsm2.out.1
      obtain ⟨b, off, rfl, hc⟩ := rd_sx (S.r 0 rfl) (by omega)
      have x0 := hc k hkl 0 _ (by omega) rfl
      have x1 := hc k hkl 1 _ (by omega) rfl
      have x2 := hc k hkl 2 _ (by omega) rfl
      have x3 := hc k hkl 3 _ (by omega) rfl
      have x4 := hc k hkl 4 _ (by omega) rfl
      have x5 := hc k hkl 5 _ (by omega) rfl
      have x6 := hc k hkl 6 _ (by omega) rfl
      have x7 := hc k hkl 7 _ (by omega) rfl
      have hso := hok.out l[k] (List.getElem_mem hkl)
      have hsl := hsm2.out.2 l[k] (List.getElem_mem hkl)
      generalize l[k] = s at *
      simp only [Nat.add_zero] at x0
      clear hc
      obtain ⟨kd, sn, y, A2, c2, B2, d2⟩ := s
      unfold SxOk at hso
      simp only at hso hsl x0 x1 x2 x3 x4 x5 x6 x7
      obtain ⟨hly, hsn⟩ := hsl
      obtain ⟨xs, hxs⟩ : ∃ z, x.s = z := ⟨_, rfl⟩
      rw [hxs]
      replace hxs := Lib.hid hxs
      have hglt := hmid.out.1.lt
      replace S := S.new' #[.int .i64 kd, .int .i64 sn, .int .i64 y.o, .int .i64 y.s, .int .i64 y.a, .bool y.ov, .slice A2 y.adj.length c2, .slice B2 y.pre.length d2] 38 wr.heap.size _ rfl rfl
      replace hmid := Lib.hid (hmid.out.below (below_new' wr (.cells #[.int .i64 kd, .int .i64 sn, .int .i64 y.o, .int .i64 y.s, .int .i64 y.a, .bool y.ov, .slice A2 y.adj.length c2, .slice B2 y.pre.length d2] 38)))
      have hgw : wr.heap.size ≠ g := by omega
      go_upto_region 15 with fail
      clear x0 x1 x2 x3 x4 x5 x6 x7
      generalize World.alloc _ _ = w4 at *
      generalize wr.heap.size = g2 at *
      have s0 := S.c 0 0 rfl rfl
      have s1 := S.c 0 1 rfl rfl
      have s2 := S.c 0 2 rfl rfl
      have s3 := S.c 0 3 rfl rfl
      have s4 := S.c 0 4 rfl rfl
      have s5 := S.c 0 5 rfl rfl
      have s6 := S.c 0 6 rfl rfl
      have s7 := S.c 0 7 rfl rfl
      go_upto_block 2 with fail
      have hgx := hmid.out.2.2.2.1
      go_cut [8, 12] (fun v8 v12 wx => GAfter w g x nd (2 * k) v8 v12 wx)
      case first =>
        obtain ⟨m1, m2, m3, m4, m5, m6⟩ := hmid.out
        by_cases hk0 : kd = 0
        · subst hk0
          have K := fun W (hb : Below w.heap.size w W) (ho : OrAt W g x mk) => oset_keep W g _ x y mk ho (hso.below hb).co (by have := hly.1; omega) (by have := hly.2; omega) m2.1 m2.2.1
          have hgr := grew_set (y := y) m2 m3 m4 hly
          obtain ⟨z1, hz1⟩ : ∃ z, setP x mk y = z := ⟨_, rfl⟩
          rw [hz1] at K hgr
          obtain ⟨x1, now1, md, er⟩ := z1
          simp only at hgr
          unfold OrKeep OrPost at K
          simp only at K
          clear hz1 m1 m2 m3 m4 m5 m6 hso hly
          replace K := Lib.hid K
          replace hgr := Lib.hid hgr
          go_wp2_with fail
          (with_reducible refine (lawco_any _ _ _ _ _ _ _ _ _ _ _).mono ?_)
          rintro e w5 ⟨rfl, hb⟩
          clear s0 s1 s2 s3 s4 s5 s6 s7
          replace S := S.call hb
          replace hmid := Lib.hid (hmid.out.below hb)
          clear hb
          have oa0 := hmid.out.1
          go_wp2_with fail
          (with_reducible refine (K.out _ S.b oa0).mono ?_)
          rintro e w6 ⟨⟨rfl, oat, hg⟩, hkp⟩
          have hq := (GAfter.of (W := w) hmid.out oat hg hkp hgr.out hys hgs S.b).2
          clear K hmid oat hg hkp S
          replace hq := Lib.hid hq
          go_wp2_with fail
          go_meet
          exact hq.out
        by_cases hk1 : kd = 1
        · subst hk1
          clear hk0
          have K := fun W (hb : Below w.heap.size w W) (ho : OrAt W g x mk) => ohear_keep W g _ x y mk ho (hso.below hb) (by have := m3.1; omega) (by have := m3.2; omega) m2.1 m2.2.1
          have hgr := grew_hear (a := y) m2 m3 m4
          obtain ⟨z1, hz1⟩ : ∃ z, hearP x mk y = z := ⟨_, rfl⟩
          rw [hz1] at K hgr
          obtain ⟨x1, now1, md, er⟩ := z1
          simp only at hgr
          unfold OrKeep OrPost at K
          simp only at K
          obtain ⟨hgr, herr⟩ := hgr
          clear hz1 m1 m2 m3 m4 m5 m6 hly
          replace K := Lib.hid K
          replace hgr := Lib.hid hgr
          replace herr := Lib.hid herr
          have oa0 := hmid.out.1
          go_wp2_with fail
          (with_reducible refine (K.out _ S.b oa0).mono ?_)
          rintro e w6 ⟨⟨rfl, oat, hg⟩, hkp⟩
          clear s0 s1 s2 s3 s4 s5 s6 s7
          have hq := GAfter.of (W := w) hmid.out oat hg hkp hgr.out hys hgs S.b
          have hd : Hid (∀ q ∈ [(g2, sxL ⟨1, sn, y, A2, c2, B2, d2⟩)], q.1 ≠ g ∧ 0 < q.2.length) := fun q hq => by
            rw [List.mem_singleton.1 hq]
            exact ⟨hgw, by simp [sxL]⟩
          replace S := S.via hg hgs hd.out
          have hz : KxOk w6 g u8 ⟨y, A2, c2, B2, d2⟩ := by
            have hlt := LaAt.lt (z := ⟨y, A2, c2, B2, d2⟩) hso
            have hkl := hq.1.1.2.2.2.2.2.own.lt
            exact ⟨hso.below S.b, fun hn ad e => ⟨by have := hlt.1 hn ad e; omega, fun e2 => by have := hlt.1 hn ad e; have := hkl _ e2; omega⟩, fun hn ad e => ⟨by have := hlt.2 hn ad e; omega, fun e2 => by have := hlt.2 hn ad e; have := hkl _ e2; omega⟩⟩
          have oat1 := oat
          clear K hmid oat hg hkp
          replace hq := Lib.hid hq
          by_cases he : er = 0
          · subst he
            have s0 := S.c 0 0 rfl rfl
            have s1 := S.c 0 1 rfl rfl
            have s2 := S.c 0 2 rfl rfl
            have s3 := S.c 0 3 rfl rfl
            have s4 := S.c 0 4 rfl rfl
            have s5 := S.c 0 5 rfl rfl
            have s6 := S.c 0 6 rfl rfl
            have s7 := S.c 0 7 rfl rfl
            obtain ⟨⟨hq1, hq2⟩, _⟩ := hq.out
            clear hq
            have e9 := herr.out rfl
            clear herr
            obtain ⟨q1, q2, q3, q4, q5, q6⟩ := hq1.below (below_new' w6 (.cells #[.int .i64 y.o, .int .i64 y.s, .int .i64 y.a, .bool y.ov, .slice A2 y.adj.length c2, .slice B2 y.pre.length d2] 32))
            have rd0 := Rd.lit w6 #[.int .i64 y.o, .int .i64 y.s, .int .i64 y.a, .bool y.ov, .slice A2 y.adj.length c2, .slice B2 y.pre.length d2] 32
            have hb0 := S.b.trans ((below_new' w6 (.cells #[.int .i64 y.o, .int .i64 y.s, .int .i64 y.a, .bool y.ov, .slice A2 y.adj.length c2, .slice B2 y.pre.length d2] 32)).mono S.b.size)
            have hz0 : KxOk (w6.alloc (.cells #[.int .i64 y.o, .int .i64 y.s, .int .i64 y.a, .bool y.ov, .slice A2 y.adj.length c2, .slice B2 y.pre.length d2] 32)) g u8 ⟨y, A2, c2, B2, d2⟩ := ⟨hz.1.below (below_new' _ _), hz.2⟩
            have hown0 := q6.own
            clear hz
            replace hq2 := Lib.hid hq2
            have hsz6 := q1.lt
            have q7 : ys.length ≤ 30 := by omega
            replace q2 := Lib.hid q2
            replace q4 := Lib.hid q4
            replace q5 := Lib.hid q5
            replace e9 := Lib.hid e9
            replace hgr := Lib.hid hgr
            replace hz0 := Lib.hid hz0
            replace q1 := Lib.hid q1
            replace q6 := Lib.hid q6
            go_wp2_with (at_builtin; refine wpList_appB rfl laT (.tmp 69) (.tmp 72) rfl (g + 1) rfl hown0 (m := 1) rfl (by simp) rd0 (kxL_one ⟨y, A2, c2, B2, d2⟩) (by simp only [maxLen]; omega) (by omega) (by omega) (ys.length + 1) _ rfl rfl ?_; intro v3 w7 hown7 hbel7 hg7 hv7)
            obtain ⟨hkn7, oat7⟩ := q6.out.snoc q1.out hz0.out ⟨e9.out.1, e9.out.2.1⟩ hown7 hg7 hv7
            have hfin : Hid (GAfter w g x nd (2 * k) v3 (.bool md) w7) := ⟨x1, now1, ys ++ [⟨y, A2, c2, B2, d2⟩], md, rfl, ⟨oat7, q2.out, q3, q4.out, q5.out, hkn7⟩, hgr.out.1, fun h => ⟨(hgr.out.2.2.2.2.2 h).1, fun z hz => by
              rcases List.mem_append.1 hz with hz | hz
              · exact hq2.out h z hz
              · rw [List.mem_singleton.1 hz]; exact e9.out.2.2 h⟩, by rw [List.length_append, List.length_singleton]; omega, hb0.trans (hbel7.mono (by omega))⟩
            clear hkn7 oat7 hown7 hbel7 hg7 hv7 q1 q2 q4 q5 q6 hb0 hz0 hgr e9 hq2
            go_wp2_with fail
            go_meet
            exact hfin.out
          · clear S hz herr
            go_wp2_with fail
            go_meet
            exact hq.out.2
        · have K := fun W (ho : OrAt W g x mk) => otick_keep W g x mk sn ho (by omega) m2.1 m2.2.1 m2.2.2.1 m2.2.2.2.1
          have hgr := grew_tick sn m2 m3 m4
          generalize tickX x mk sn = x1 at *
          generalize tickB x mk sn = md at *
          unfold TickKeep TickPost at K
          clear m1 m2 m3 m4 m5 m6 hso hly
          replace K := Lib.hid K
          replace hgr := Lib.hid hgr
          have oa0 := hmid.out.1
          go_wp2_with fail
          (with_reducible refine (K.out _ oa0).mono ?_)
          rintro e w6 ⟨⟨rfl, oat, hg⟩, hkp⟩
          clear s0 s1 s2 s3 s4 s5 s6 s7
          have hq := (GAfter.of (W := w) hmid.out oat hg hkp hgr.out hys hgs S.b).2
          clear K hmid oat hg hkp S
          replace hq := Lib.hid hq
          go_wp2_with fail
          go_meet
          exact hq.out
      case rest =>
        obtain ⟨x1, mk1, ys1, md, rfl, hmid1, hle, hnew, hys1, hB⟩ := hcut
        replace S : St w wc [] [(some ⟨b, off, none⟩, sxV l)] := ⟨hB, by simp, S.rd⟩
        clear hB hmid
        clear s0 s1 s2 s3 s4 s5 s6 s7
        have hsx : x.s ≤ x1.s := hle
        rw [hxs.out] at hsx
        clear hle hxs hgx hso hly
        obtain ⟨m1, m2, m3, m4, m5, m6⟩ := id hmid1
        obtain ⟨Ak, ck, rfl, -, -, -⟩ := own_rd m6.own
        have C := current_any wc g x1 mk1 m1 (by have := m3.1; omega) (by have := m3.2; omega)
        rw [show CurPost wc x1 mk1 = fun e w' => ∃ v, e = .returned (.tuple #[v, .bool mk1]) ∧ LaOwn w' wc.heap.size v (curX x1 mk1) ∧ Below wc.heap.size wc w' from rfl] at C
        have hgc := m1.lt
        have hkb := m6.own.lt
        obtain ⟨X, hX⟩ : ∃ z, curX x1 mk1 = z := ⟨_, rfl⟩
        rw [hX] at C
        have hXv : mk1 = true → LaValid X ∧ X.o = nd ∧ X.s = x1.s := fun h => by
          subst h
          rw [← hX]
          exact ⟨m4.2 rfl, m5, rfl⟩
        obtain ⟨fl, hfl⟩ : ∃ z, x1.s = z := ⟨_, rfl⟩
        rw [hfl] at hsx hXv hnew
        clear hX m1 m2 m3 m4 m5 m6
        replace hkb := Lib.hid hkb
        replace hXv := Lib.hid hXv
        replace hnew := Lib.hid hnew
        replace hfl := Lib.hid hfl
        replace hmid1 := Lib.hid hmid1
        replace C := Lib.hid C
        go_wp2_with fail
        (with_reducible refine (C.out).mono ?_)
        rintro e w7 ⟨v7, rfl, hown, hb⟩
        clear C
        replace S := S.call hb
        replace hmid1 := Lib.hid (hmid1.out.below hb)
        obtain ⟨A7, c7, B7, d7, rfl, hL7⟩ := hown.open
        clear hL7
        have hz := KxOk.made (v := .slice Ak ys1.length ck) hown hgc (fun b e => (hkb.out b e).2)
        have hgw7 : g < w7.heap.size := hmid1.out.1.lt
        clear hown hb hkb
        replace S := S.new' #[.int .i64 X.o, .int .i64 X.s, .int .i64 X.a, .bool X.ov, .slice A7 X.adj.length c7, .slice B7 X.pre.length d7] 32 w7.heap.size _ rfl rfl
        replace hz := hz.below (below_new' w7 (.cells #[.int .i64 X.o, .int .i64 X.s, .int .i64 X.a, .bool X.ov, .slice A7 X.adj.length c7, .slice B7 X.pre.length d7] 32))
        replace hmid1 := Lib.hid (hmid1.out.below (below_new' w7 (.cells #[.int .i64 X.o, .int .i64 X.s, .int .i64 X.a, .bool X.ov, .slice A7 X.adj.length c7, .slice B7 X.pre.length d7] 32)))
        go_upto_region 26 with fail
        generalize w7.alloc _ = w8 at *
        generalize w7.heap.size = g3 at *
        have FL : Hid (∀ W, Below w8.heap.size w8 W → Calls Try.prog 15 #[.pointer (some ⟨g, 0, none⟩)] W fun e w' => e = .returned (.int .i64 fl) ∧ Below W.heap.size W w') := fun W hb => (floor_any W g x1 mk1 (hmid1.out.below hb).1).mono fun e w' ⟨he, hw⟩ => ⟨by rw [he, hfl.out], by subst hw; exact Below.refl _ _⟩
        have VA : Hid (∀ W, Below w8.heap.size w8 W → mk1 = true → Calls Try.prog 20 #[laV X.o X.s X.a X.ov A7 X.adj.length c7 B7 X.pre.length d7] W fun e w' => e = .returned (.bool true) ∧ Below W.heap.size W w') := fun W hb h => by
          have := valid_at W _ X (hz.below hb).1
          rwa [vB_t (hXv.out h).1] at this
        go_cut [110] (fun v wx => v = .bool false ∧ Below w8.heap.size w8 wx)
        case first =>
          have a0 := cell_regrown (S.c 0 0 rfl rfl)
          have a1 := cell_regrown (S.c 0 1 rfl rfl)
          have a2 := cell_regrown (S.c 0 2 rfl rfl)
          have a3 := cell_regrown (S.c 0 3 rfl rfl)
          have a4 := cell_regrown (S.c 0 4 rfl rfl)
          have a5 := cell_regrown (S.c 0 5 rfl rfl)
          have hlo : decide (fl < xs) = false := by simp; omega
          cases mk1 with
          | false =>
            obtain rfl : md = false := by
              cases md with
              | false => rfl
              | true => exact absurd (hnew.out rfl).1 (by simp)
            clear hnew hXv hz hmid1
            refine wp_region_quiet_below (by kernel_rfl) (by kernel_rfl) ?_
            repeat (go_big_quiet_step (first | (go_at_call 15; with_reducible exact Calls.regrown_of (FL.out _ (below_regrown _ _ _))) | (go_at_call 20; with_reducible exact Calls.regrown_of (VA.out _ (below_regrown _ _ _) rfl))))
            refine wpQuiet_nil ?_
            intro _ hw'
            obtain ⟨⟨dq, osq⟩, hw''⟩ := hw'
            subst hw''
            go_wp2_with fail
            go_meet
            exact ⟨rfl, below_regrown _ dq osq⟩
          | true =>
            obtain ⟨j1, j2, j3⟩ := hXv.out rfl
            have n1 : (X.o != nd) = false := by rw [j2]; simp
            have n2 : (X.s != fl) = false := by rw [j3]; simp
            clear hnew hXv hz hmid1 j1 j2 j3
            cases md
            all_goals
              refine wp_region_quiet_below (by kernel_rfl) (by kernel_rfl) ?_
              repeat (go_big_quiet_step (first | (go_at_call 15; with_reducible exact Calls.regrown_of (FL.out _ (below_regrown _ _ _))) | (go_at_call 20; with_reducible exact Calls.regrown_of (VA.out _ (below_regrown _ _ _) rfl))))
              refine wpQuiet_nil ?_
              intro _ hw'
              obtain ⟨⟨dq, osq⟩, hw''⟩ := hw'
              subst hw''
              go_wp2_with fail
              go_meet
              exact ⟨rfl, below_regrown _ dq osq⟩
        case rest =>
          obtain ⟨rfl, hbc⟩ := hcut
          clear VA
          replace S := S.call hbc
          replace hmid1 := Lib.hid (hmid1.out.below hbc)
          replace hz := hz.below hbc
          have FL2 := FL.out _ hbc
          replace FL2 := Lib.hid FL2
          clear hbc FL
          go_wp2_with fail
          (with_reducible refine (FL2.out).mono ?_)
          rintro e w9 ⟨rfl, hb⟩
          clear FL2
          replace S := S.call hb
          replace hmid1 := Lib.hid (hmid1.out.below hb)
          replace hz := Lib.hid (hz.below hb)
          clear hb
          go_wp2_with fail
          go_loopw [16] (fun v16 wz => ∃ (j : Nat), v16 = .int .i64 j ∧ j ≤ ys1.length ∧ St w wz [(g3, [.int .i64 X.o, .int .i64 X.s, .int .i64 X.a, .bool X.ov, .slice A7 X.adj.length c7, .slice B7 X.pre.length d7])] [(some ⟨b, off, none⟩, sxV l)] ∧ Hid (GMid wz g x1 mk1 (.slice Ak ys1.length ck) ys1 nd) ∧ Hid (KxOk wz g (.slice Ak ys1.length ck) ⟨X, A7, c7, B7, d7⟩)) (fun v16 _ => ys1.length - (intOf v16).toNat)
          case atStart => exact ⟨0, rfl, by omega, S, hmid1, hz⟩
          case round =>
            clear S hmid1 hz
            obtain ⟨j, rfl, hj, S, hmid1, hz⟩ := hrel
            by_cases hjm : j < ys1.length ∧ md = true
            · obtain ⟨hjk, rfl⟩ := hjm
              obtain ⟨m1, m2, m3, m4, m5, m6⟩ := id hmid1.out
              obtain ⟨nw1, nw2⟩ := hnew.out rfl
              obtain ⟨bk, ok, rfl, hck⟩ := rd_kx (own_read m6.own).1 (by omega)
              have kz := m6.ok ys1[j] (List.getElem_mem hjk)
              have z0 := hck j hjk 0 _ (by omega) rfl
              have z1 := hck j hjk 1 _ (by omega) rfl
              have z2 := hck j hjk 2 _ (by omega) rfl
              have z3 := hck j hjk 3 _ (by omega) rfl
              have z4 := hck j hjk 4 _ (by omega) rfl
              have z5 := hck j hjk 5 _ (by omega) rfl
              have hXX := hXv.out nw1
              have hnx : newI X ys1[j].y = 1 := newer_all (ys := ys1) (fl := fl - 1) hXX.1 (by have := hXX.2.2; omega) hjk (fun z hz => ⟨(m6.le z hz).1, by have := nw2 z hz; omega⟩)
              have NW := fun W (hb : Below wr.heap.size wr W) => lnewer_any W _ _ X ys1[j].y (hz.out.below hb).1 (kz.below hb).1
              rw [hnx] at NW
              replace NW := Lib.hid NW
              clear m1 m2 m3 m4 m5 m6 nw1 nw2 hXX hnx kz hck
              generalize ys1[j] = zj at *
              simp only [Nat.add_zero] at z0
              replace z0 := cell_regrown z0
              replace z1 := cell_regrown z1
              replace z2 := cell_regrown z2
              replace z3 := cell_regrown z3
              replace z4 := cell_regrown z4
              replace z5 := cell_regrown z5
              go_wp2_with fail
              have a0 := cell_regrown (S.c 0 0 rfl rfl)
              have a1 := cell_regrown (S.c 0 1 rfl rfl)
              have a2 := cell_regrown (S.c 0 2 rfl rfl)
              have a3 := cell_regrown (S.c 0 3 rfl rfl)
              have a4 := cell_regrown (S.c 0 4 rfl rfl)
              have a5 := cell_regrown (S.c 0 5 rfl rfl)
              refine wp_region_quiet_below (by kernel_rfl) (by kernel_rfl) ?_
              repeat (go_big_quiet_step (first | (go_at_call 21; with_reducible exact Calls.regrown_of (NW.out _ (below_regrown _ _ _)))))
              refine wpQuiet_nil ?_
              intro _ hw'
              obtain ⟨⟨dq, osq⟩, hw''⟩ := hw'
              subst hw''
              clear a0 a1 a2 a3 a4 a5
              clear z0 z1 z2 z3 z4 z5 NW
              replace S := S.call (below_regrown _ dq osq)
              replace hmid1 := Lib.hid (hmid1.out.below (below_regrown _ dq osq))
              replace hz := Lib.hid (hz.out.below (below_regrown _ dq osq))
              go_wp2_with fail
              go_round
              case rel => exact ⟨j + 1, by go_num, by omega, S, hmid1, hz⟩
              case measure => simp [intOf]; omega
            · cases md with
              | false =>
                by_cases hjl : j < ys1.length
                · go_wp2_with fail
                  go_round
                  case rel => exact ⟨k + 1, x1, mk1, ys1, by go_num, by rw [hfl.out], by omega, by omega, S.keepBoxes [] (by simp), hmid1⟩
                  case measure => simp [intOf]; omega
                · go_wp2_with fail
                  go_round
                  case rel => exact ⟨k + 1, x1, mk1, ys1, by go_num, by rw [hfl.out], by omega, by omega, S.keepBoxes [] (by simp), hmid1⟩
                  case measure => simp [intOf]; omega
              | true =>
                obtain rfl : ys1.length = j := by
                  have : ¬ j < ys1.length := fun h => hjm ⟨h, rfl⟩
                  omega
                obtain ⟨nw1, nw2⟩ := hnew.out rfl
                have hXX := hXv.out nw1
                obtain ⟨q1, q2, q3, q4, q5, q6⟩ := hmid1.out.below (below_new' wr (.cells #[.int .i64 X.o, .int .i64 X.s, .int .i64 X.a, .bool X.ov, .slice A7 X.adj.length c7, .slice B7 X.pre.length d7] 32))
                have rd0 := Rd.lit wr #[.int .i64 X.o, .int .i64 X.s, .int .i64 X.a, .bool X.ov, .slice A7 X.adj.length c7, .slice B7 X.pre.length d7] 32
                have hb0 := S.b.trans ((below_new' wr (.cells #[.int .i64 X.o, .int .i64 X.s, .int .i64 X.a, .bool X.ov, .slice A7 X.adj.length c7, .slice B7 X.pre.length d7] 32)).mono S.b.size)
                have hz0 := hz.out.below (below_new' wr (.cells #[.int .i64 X.o, .int .i64 X.s, .int .i64 X.a, .bool X.ov, .slice A7 X.adj.length c7, .slice B7 X.pre.length d7] 32))
                have hown0 := q6.own
                have hsz6 := q1.lt
                have q7 : ys1.length ≤ 31 := by omega
                replace q2 := Lib.hid q2
                replace q4 := Lib.hid q4
                replace q5 := Lib.hid q5
                replace hz0 := Lib.hid hz0
                replace hXX := Lib.hid hXX
                replace q1 := Lib.hid q1
                replace q6 := Lib.hid q6
                clear nw1 nw2 hjm hmid1 hz
                have a0 := S.c 0 0 rfl rfl
                have a1 := S.c 0 1 rfl rfl
                have a2 := S.c 0 2 rfl rfl
                have a3 := S.c 0 3 rfl rfl
                have a4 := S.c 0 4 rfl rfl
                have a5 := S.c 0 5 rfl rfl
                go_wp2_with (at_builtin; refine wpList_appB rfl laT (.tmp 130) (.tmp 132) rfl (g + 1) rfl hown0 (m := 1) rfl (by simp) rd0 (kxL_one ⟨X, A7, c7, B7, d7⟩) (by simp only [maxLen]; omega) (by omega) (by omega) (ys1.length + 1) _ rfl rfl ?_; intro v3 w7 hown7 hbel7 hg7 hv7)
                obtain ⟨hkn7, oat7⟩ := q6.out.snoc q1.out hz0.out ⟨hXX.out.1, by rw [hXX.out.2.2, hfl.out]; exact Int.le_refl _⟩ hown7 hg7 hv7
                have hfin : Hid (GMid w7 g x1 mk1 v3 (ys1 ++ [⟨X, A7, c7, B7, d7⟩]) nd ∧ Below w.heap.size w w7) := ⟨⟨oat7, q2.out, q3, q4.out, q5.out, hkn7⟩, hb0.trans (hbel7.mono (by omega))⟩
                clear hkn7 oat7 hown7 hbel7 hg7 hv7 q1 q2 q4 q5 q6 hb0 hz0 hXX
                clear a0 a1 a2 a3 a4 a5
                go_wp2_with fail
                go_round
                case rel => exact ⟨k + 1, x1, mk1, ys1 ++ [⟨X, A7, c7, B7, d7⟩], by go_num, by rw [hfl.out], by omega, by rw [List.length_append, List.length_singleton]; omega, ⟨hfin.out.2, by simp, S.rd⟩, Lib.hid hfin.out.1⟩
                case measure => simp [intOf]; omega
    · obtain rfl : k = n := by omega
      go_wp2_with fail
      go_ret
      exact ⟨rfl, S.b⟩

end Go.Proofs.Ytfpoghhjpfkbaaa
