/-
  The texts DbL, Rd1, RdA, Db8, DbNl, Db9, one after the other.
-/
import Derived.Test.YtbkpholkjgjicaaGreatQPSpNew1
import Derived.Test.YtbkpholkjgjicaaGreatLaArg
import Derived.Deep.MidRow
namespace Go.Proofs.YtbkpholkjgjicaaGreat
set_option linter.unusedVariables false
open Go.RowKit Go.Sort Go.ChangeShapes Go.WideShapes Go.ChangeAt

/-- An advertisement as it lies in memory. -/
structure Lx where
  y : La
  A : Option Addr
  c : Nat
  B : Option Addr
  d : Nat
def lxL (s : Lx) : List Value := [.int .i64 s.y.o, .int .i64 s.y.s, .int .i64 s.y.a, .bool s.y.ov, .slice s.A s.y.adj.length s.c, .slice s.B s.y.pre.length s.d]
def lxV : List Lx → List Value
  | [] => []
  | s :: l => lxL s ++ lxV l
def LxOk (w : World) (s : Lx) : Prop := LaAt w (laV s.y.o s.y.s s.y.a s.y.ov s.A s.y.adj.length s.c s.B s.y.pre.length s.d) s.y
theorem lxV_len (l : List Lx) : (lxV l).length = l.length * 6 := by
  induction l with
  | nil => rfl
  | cons r l ih => simp only [lxV, lxL, List.length_append, List.length_cons, List.length_nil, ih]; omega
theorem lxV_get (l : List Lx) : ∀ (k : Nat) (hk : k < l.length) (j : Nat) (hj : j < 6), (lxV l)[6 * k + j]? = (lxL l[k])[j]? := by
  induction l with
  | nil => intro k hk; simp at hk
  | cons r l ih =>
    intro k hk j hj
    have h8 : (lxL r).length = 6 := rfl
    cases k with
    | zero => simp only [lxV, List.getElem_cons_zero]; rw [List.getElem?_append_left (by omega)]; simp
    | succ k =>
      simp only [lxV, List.getElem_cons_succ]
      rw [List.getElem?_append_right (by omega), h8, show 6 * (k + 1) + j - 6 = 6 * k + j by omega]
      exact ih k (by simpa using hk) j hj
theorem rd_lx {w : World} {A : Option Addr} {l : List Lx} (h : Rd w A (lxV l)) (hn : 0 < l.length) :
    ∃ b off, A = some ⟨b, off, none⟩ ∧ ∀ k (hk : k < l.length) j (u : Value), j < 6 → (lxL l[k])[j]? = some u → w.cell? ⟨b, off + k * 6 + j, none⟩ = some u := by
  obtain ⟨b, off, e, hc⟩ := rd_at h (by rw [lxV_len]; omega)
  refine ⟨b, off, e, fun k hk j u hj hu => ?_⟩
  rw [Nat.add_assoc]
  exact hc _ _ (by rw [Nat.mul_comm k 6, lxV_get l k hk j hj]; exact hu)
theorem rep_las {w : World} {xs : List La} : ∀ {vs : List Value}, Rep (IsLa w) 6 xs vs → ∃ l : List Lx, vs = lxV l ∧ l.length = xs.length ∧ ∀ s ∈ l, LxOk w s := by
  induction xs with
  | nil => intro vs h; exact ⟨[], h, rfl, by simp⟩
  | cons b t ih =>
    rintro vs ⟨cs', q, rfl, ⟨hla, hl6⟩, _, hr⟩
    obtain ⟨l, rfl, hl, hok⟩ := ih hr
    obtain ⟨A, cc, B, d, hv, hat⟩ := hla.opened
    have hcs : cs' = [.int .i64 b.o, .int .i64 b.s, .int .i64 b.a, .bool b.ov, .slice A b.adj.length cc, .slice B b.pre.length d] := by
      simp only [laV, Value.agg.injEq] at hv
      have := congrArg Array.toList hv
      simpa using this
    subst hcs
    refine ⟨⟨b, A, cc, B, d⟩ :: l, rfl, by simp [hl], fun s hs => ?_⟩
    rcases List.mem_cons.1 hs with rfl | hs
    · exact hat
    · exact hok s hs

section
variable {H : Type} {enc : TypeId × Value → H} {w : World} {base : Nat} {spare : Nat → Bool} {held : Bool} {r : Reach} {b0 : Nat} {v : Value} {d : DataW H} {ps : List MemPlace}
set_option maxRecDepth 100000 in
theorem arg_las (hv : Value.okWide Tryz.prog w r b0 44 v) (h : DataW.Trod enc Tryz.prog w base spare held 44 v d ps) :
    ∃ (A : Option Addr) (n c : Nat) (l : List Lx), v = .slice A n c ∧ Rd w A (lxV l) ∧ l.length = n ∧ n ≤ maxLen ∧ ∀ s ∈ l, LxOk w s := by
  obtain ⟨A, n, c, x, rfl, A', c', vs, h1, h2, h3, h4, h5⟩ := arg_slice Tryz.underlying44 (opens_slice Tryz.underlying44 (by kernel_rfl) (opens_la w)) hv h
  simp only [List.cons.injEq, Value.slice.injEq, and_true] at h1
  obtain ⟨rfl, rfl, rfl⟩ := h1
  rw [show Tryz.prog.cellsOf 52 = 6 from by kernel_rfl] at h4
  obtain ⟨l, rfl, hl, hok⟩ := rep_las h4
  exact ⟨A, _, c, l, rfl, h5, hl, Nat.le_trans h2 h3, hok⟩
end

end Go.Proofs.YtbkpholkjgjicaaGreat

namespace Go.Proofs.YtbkpholkjgjicaaGreat
set_option linter.unusedVariables false
open Go.RowKit Go.Maps Go.Sort

/-- An origin's place: an advertisement as it lies in memory, what is left of it, whether it is there. -/
structure Rs where
  x : Lx
  l : Int
  is : Bool
def hdL (s : Rs) : List Value := lxL s.x ++ [.int .i64 s.l]
def atsC (R : Nat → Rs) : Nat → List Value
  | 0 => []
  | n + 1 => atsC R n ++ hdL (R n)
def rdC (R : Nat → Rs) : List Value := (List.range 64).map (fun i => .bool (R i).is) ++ atsC R 64
section
variable (R : Nat → Rs)
theorem hdL_len (s : Rs) : (hdL s).length = 7 := rfl
theorem atsC_len : ∀ n, (atsC R n).length = n * 7
  | 0 => rfl
  | n + 1 => by rw [atsC, List.length_append, atsC_len n, hdL_len]; omega
theorem atsC_at : ∀ n i, i < n → ∀ j, j < 7 → (atsC R n)[i * 7 + j]? = (hdL (R i))[j]?
  | 0, i, h => by omega
  | n + 1, i, h => fun j hj => by
    rw [atsC]
    by_cases e : i = n
    · subst e
      rw [List.getElem?_append_right (by rw [atsC_len]; omega), atsC_len]
      congr 1; omega
    · rw [List.getElem?_append_left (by rw [atsC_len]; omega)]
      exact atsC_at n i (by omega) j hj
theorem rdC_len : (rdC R).length = 512 := by unfold rdC; rw [List.length_append, atsC_len]; simp
theorem rdC_is {i : Nat} (hi : i < 64) : (rdC R)[i]? = some (.bool (R i).is) := by
  unfold rdC
  rw [List.getElem?_append_left (by simpa using hi)]
  simp [hi]
theorem rdC_at {i : Nat} (hi : i < 64) {j : Nat} (hj : j < 7) : (rdC R)[64 + i * 7 + j]? = (hdL (R i))[j]? := by
  unfold rdC
  rw [List.getElem?_append_right (by simp; omega)]
  simp only [List.length_map, List.length_range]
  rw [show 64 + i * 7 + j - 64 = i * 7 + j by omega]
  exact atsC_at R 64 i hi j hj
end
theorem rdC_ext {l : List Value} {R : Nat → Rs} (hl : l.length = 512) (h1 : ∀ i, i < 64 → l[i]? = some (.bool (R i).is)) (h2 : ∀ i, i < 64 → ∀ j, j < 7 → l[64 + i * 7 + j]? = (hdL (R i))[j]?) : l = rdC R := by
  apply List.ext_getElem?
  intro n
  by_cases h : n < 64
  · rw [h1 n h, rdC_is R h]
  · by_cases h5 : n < 512
    · have e : n = 64 + (n - 64) / 7 * 7 + (n - 64) % 7 := by omega
      rw [e, h2 _ (by omega) _ (by omega), rdC_at R (by omega) (by omega)]
    · rw [List.getElem?_eq_none (by omega), List.getElem?_eq_none (by rw [rdC_len]; omega)]
def upR (R : Nat → Rs) (i : Nat) (s : Rs) : Nat → Rs := fun j => if j = i then s else R j
theorem upR_same (R : Nat → Rs) (i : Nat) (s : Rs) : upR R i s i = s := by simp [upR]
theorem upR_other (R : Nat → Rs) {i j : Nat} (s : Rs) (h : j ≠ i) : upR R i s j = R j := by simp [upR, h]
theorem upR_upR (R : Nat → Rs) (i : Nat) (s s' : Rs) : upR (upR R i s) i s' = upR R i s' := by funext j; unfold upR; split <;> rfl
theorem rdC_set_is (R : Nat → Rs) {i : Nat} (hi : i < 64) (b : Bool) : (rdC R).set i (.bool b) = rdC (upR R i { R i with is := b }) := by
  refine rdC_ext (by rw [List.length_set, rdC_len]) (fun k hk => ?_) (fun k hk j hj => ?_)
  · by_cases e : i = k
    · subst e
      rw [List.getElem?_set_self (by rw [rdC_len]; omega), upR_same]
    · rw [List.getElem?_set_ne e, rdC_is R hk, upR_other R _ (fun h => e h.symm)]
  · rw [List.getElem?_set_ne (by omega), rdC_at R hk hj]
    by_cases e : i = k
    · subst e; rw [upR_same]; rfl
    · rw [upR_other R _ (fun h => e h.symm)]
theorem rdC_set_at (R : Nat → Rs) {i : Nat} (hi : i < 64) {j : Nat} (hj : j < 7) (v : Value) (s : Rs) (hs : s.is = (R i).is) (hv : (hdL (R i)).set j v = hdL s) : (rdC R).set (64 + i * 7 + j) v = rdC (upR R i s) := by
  refine rdC_ext (by rw [List.length_set, rdC_len]) (fun k hk => ?_) (fun k hk m hm => ?_)
  · rw [List.getElem?_set_ne (by omega), rdC_is R hk]
    by_cases e : i = k
    · subst e; rw [upR_same, hs]
    · rw [upR_other R _ (fun h => e h.symm)]
  · by_cases e : i = k
    · subst e
      rw [upR_same, ← hv]
      by_cases e2 : j = m
      · subst e2
        rw [List.getElem?_set_self (by rw [rdC_len]; omega), List.getElem?_set_self (by rw [hdL_len]; omega)]
      · rw [List.getElem?_set_ne (by omega), List.getElem?_set_ne e2, rdC_at R hi hm]
    · rw [upR_other R _ (fun h => e h.symm), List.getElem?_set_ne (by omega), rdC_at R hk hm]
theorem rdC_one (R : Nat → Rs) : ∀ v ∈ rdC R, v.oneCell' = true := by
  intro v hv
  obtain ⟨n, hn, rfl⟩ := List.getElem_of_mem hv
  rw [rdC_len] at hn
  by_cases h : n < 64
  · have := rdC_is R h
    rw [List.getElem?_eq_getElem (by rw [rdC_len]; omega)] at this
    injection this with this
    rw [this]; rfl
  · have e : n = 64 + (n - 64) / 7 * 7 + (n - 64) % 7 := by omega
    have := rdC_at R (i := (n - 64) / 7) (by omega) (j := (n - 64) % 7) (by omega)
    rw [← e, List.getElem?_eq_getElem (by rw [rdC_len]; omega)] at this
    have hm := List.mem_of_getElem? this.symm
    simp only [hdL, lxL, List.cons_append, List.nil_append, List.mem_cons, List.not_mem_nil, or_false] at hm
    rcases hm with e | e | e | e | e | e | e <;> rw [e] <;> rfl
/-- What the database holds. -/
def dbOf (R : Nat → Rs) : Db := fun i => if i < 64 ∧ (R i).is = true then some ⟨(R i).x.y, (R i).l⟩ else none
theorem dbOf_small (R : Nat → Rs) : ∀ i, 64 ≤ i → dbOf R i = none := fun i hi => if_neg (by omega)
/-- All advertisements, the gone ones too, can be read. -/
def RdOk (w : World) (R : Nat → Rs) : Prop := ∀ i, i < 64 → LxOk w (R i).x
theorem RdOk.below {w w' : World} {R : Nat → Rs} (h : RdOk w R) (hb : Below w.heap.size w w') : RdOk w' R := fun i hi => by
  have := h i hi
  unfold LxOk at *
  exact this.below hb
theorem RdOk.up {w : World} {R : Nat → Rs} (h : RdOk w R) (i : Nat) (s : Rs) (hs : LxOk w s.x) : RdOk w (upR R i s) := fun j hj => by
  by_cases e : j = i
  · subst e; rw [upR_same]; exact hs
  · rw [upR_other R _ e]; exact h j hj
def lxZ : Lx := ⟨laZero, none, 0, none, 0⟩
def rsZ : Rs := ⟨lxZ, 0, false⟩
theorem rsZ_ok (w : World) : RdOk w (fun _ => rsZ) := fun i _ => (laZero_own w w.heap.size).at
theorem dbOf_zero : dbOf (fun _ => rsZ) = fun _ => none := by funext i; unfold dbOf; rw [if_neg (by simp [rsZ])]
/-! ### In memory -/
theorem Box.range {w : World} {g : Nat} {cs : List Value} (h : Box w g cs) : w.rangeAt g 0 cs := fun j v hv => by rw [Nat.zero_add]; exact (h j v hv).1
theorem Box.there {w : World} {g : Nat} {cs : List Value} (h : Box w g cs) {n : Nat} (hn : cs.length = n) : w.there g 0 n := fun j hj => by
  have := h j _ (List.getElem?_eq_getElem (by omega))
  rw [Nat.zero_add]
  exact ⟨by rw [this.1]; rfl, this.2⟩
theorem Box.setAll {w : World} {g : Nat} {cs : List Value} (h : Box w g cs) (cs' : List Value) (hl : cs'.length = cs.length) : Box (w.setCells g 0 cs') g cs' := fun i u hu => by
  have h1 := World.rangeAt_setCells_same w g 0 cs' (by rw [hl]; exact h.there rfl) i u hu
  rw [Nat.zero_add] at h1
  refine ⟨h1, ?_⟩
  rw [World.frozen?_setCells]
  exact (h i _ (List.getElem?_eq_getElem (by have := (List.getElem?_eq_some_iff.1 hu).1; omega))).2
theorem Box.farAll {w : World} {g : Nat} {cs : List Value} (h : Box w g cs) (g' o : Nat) (vs : List Value) (hk : g' ≠ g) : Box (w.setCells g' o vs) g cs := fun i u hu => by
  refine ⟨?_, by rw [World.frozen?_setCells]; exact (h i u hu).2⟩
  rw [World.cell?_setCells_out g' vs o w ⟨g, i, none⟩ (fun e _ => absurd e.symm hk)]
  exact (h i u hu).1
theorem below_setCells {W : World} {g : Nat} (hg : W.heap.size ≤ g) : ∀ (vs : List Value) (o : Nat) (w : World), Below W.heap.size W w → Below W.heap.size W (w.setCells g o vs)
  | [], _, _, h => h
  | v :: r, o, w, h => by
    rw [World.setCells]
    exact below_setCells hg r (o + 1) _ (h.setCell (p := ⟨g, o, none⟩) hg v)
/-- All cells of a box stored anew. -/
theorem St.setAll {W w : World} {bs : List (Nat × List Value)} {rs : List (Option Addr × List Value)} (S : St W w bs rs) (i : Nat) (cs' : List Value) {g : Nat} {cs : List Value} (hi : bs[i]? = some (g, cs)) (hl : cs'.length = cs.length) (hg : W.heap.size ≤ g)
    (hd : ∀ x ∈ bs.eraseIdx i, x.1 ≠ g) (bs' : List (Nat × List Value)) (hbs : bs.set i (g, cs') = bs') : St W (w.setCells g 0 cs') bs' rs := by
  subst hbs
  refine ⟨below_setCells hg cs' 0 w S.b, fun k x hx => ?_, S.rd⟩
  by_cases hk : i = k
  · subst hk
    rw [List.getElem?_set_self (by have := (List.getElem?_eq_some_iff.1 hi).1; exact this)] at hx
    injection hx with hx
    subst hx
    exact (S.bx i _ hi).setAll cs' hl
  · rw [List.getElem?_set_ne hk] at hx
    exact (S.bx k x hx).farAll g 0 cs' (fun e => hd x (List.mem_eraseIdx_iff_getElem?.2 ⟨k, fun e' => hk e'.symm, hx⟩) e.symm)

end Go.Proofs.YtbkpholkjgjicaaGreat

namespace Go.Proofs.YtbkpholkjgjicaaGreat
set_option linter.unusedVariables false
open Go.RowKit Go.Maps Go.Sort

theorem laT : ElemT Tryz.prog 44 52 (.agg #[.int .i64 0, .int .i64 0, .int .i64 0, .bool false, .slice none 0 0, .slice none 0 0]) 6 80 := ⟨Tryz.underlying44, by kernel_rfl, rfl, by omega⟩
theorem lxL_one (s : Lx) : ∀ u ∈ lxL s, u.oneCell' = true := by
  intro u hu
  simp only [lxL, List.mem_cons, List.not_mem_nil, or_false] at hu
  rcases hu with e | e | e | e | e | e <;> rw [e] <;> rfl
theorem lxV_append (a b : List Lx) : lxV (a ++ b) = lxV a ++ lxV b := by
  induction a with
  | nil => rfl
  | cons r l ih => simp only [List.cons_append, lxV, ih, List.append_assoc]
theorem Box.belowB {w w' : World} {g B : Nat} {cs : List Value} (h : Box w g cs) (hb : Below B w w') (hg : g < B) : Box w' g cs := fun i u hu => by
  have hk := hb.block g hg
  have := h i u hu
  exact ⟨(World.cell?_of_block (a := ⟨g, i, none⟩) hk).trans this.1, (World.frozen?_of_block (a := ⟨g, i, none⟩) hk).trans this.2⟩
theorem St.belowB {W w w' : World} {bs : List (Nat × List Value)} {rs : List (Option Addr × List Value)} {B : Nat} (S : St W w bs rs) (hb : Below B w w') (hB : W.heap.size ≤ B) (hd : ∀ x ∈ bs, x.1 < B) : St W w' bs rs :=
  ⟨S.b.trans (hb.mono hB), fun i x hx => (S.bx i x hx).belowB hb (hd x (List.mem_of_getElem? hx)), S.rd⟩
def allK (R : Nat → Rs) (k : Nat) : List Lx := ((List.range k).filter fun i => (R i).is).map fun i => (R i).x
abbrev allR (R : Nat → Rs) : List Lx := allK R 64
theorem allK_t {R : Nat → Rs} {k : Nat} (h : (R k).is = true) : allK R (k + 1) = allK R k ++ [(R k).x] := by simp [allK, List.range_succ, List.filter_append, h]
theorem allK_f {R : Nat → Rs} {k : Nat} (h : (R k).is = false) : allK R (k + 1) = allK R k := by simp [allK, List.range_succ, List.filter_append, h]
theorem allK_len (R : Nat → Rs) (k : Nat) : (allK R k).length ≤ k := by
  unfold allK
  rw [List.length_map]
  refine Nat.le_trans (List.length_filter_le _ _) ?_
  simp

end Go.Proofs.YtbkpholkjgjicaaGreat

namespace Go.Proofs.YtbkpholkjgjicaaGreat
set_option linter.unusedVariables false
open Go.RowKit Go.Maps Go.Sort

/-! ### A database that may be nil -/
def DbP (w : World) (v : Value) (N : Db) : Prop := (v = .pointer none ∧ N = fun _ => none) ∨ ∃ g b, v = .pointer (some ⟨g, 0, none⟩) ∧ DbAt w g b N
theorem DbAt.p {w : World} {g b : Nat} {N : Db} (h : DbAt w g b N) : DbP w (.pointer (some ⟨g, 0, none⟩)) N := .inr ⟨g, b, rfl, h⟩
theorem DbP.nil (w : World) : DbP w (.pointer none) (fun _ => none) := .inl ⟨rfl, rfl⟩
theorem DbP.below {w w' : World} {v : Value} {N : Db} (h : DbP w v N) (hb : Below w.heap.size w w') : DbP w' v N := by
  rcases h with h | ⟨g, b, e, h⟩
  · exact .inl h
  · exact .inr ⟨g, b, e, h.below hb⟩
theorem orgs_nil : orgs (fun _ => none) = [] := by
  unfold orgs
  rw [List.filter_eq_nil_iff]
  intro i _; simp
theorem dorigins_p (w : World) (v : Value) (N : Db) (h : DbP w v N) : Calls Tryz.prog 78 #[v] w fun e w' => ∃ A c, e = .returned (.slice A (orgs N).length c) ∧ Rd w' A ((orgs N).map encZ) ∧ Below w.heap.size w w' := by
  rcases h with ⟨rfl, rfl⟩ | ⟨g, b, rfl, h⟩
  · refine (dorigins_nil w).mono ?_
    rintro e w' ⟨rfl, rfl⟩
    rw [orgs_nil]
    exact ⟨none, 0, rfl, Rd.nil _ _, Below.refl _ _⟩
  · refine (dorigins_any w g b N h).mono ?_
    rintro e w' ⟨A, c, he, ho, hb⟩
    exact ⟨A, c, he, own_slice ho, hb⟩
/-- What is held for a number. -/
theorem DbAt.el {w : World} {g b : Nat} {N : Db} (h : DbAt w g b N) {q : Nat} (hq : q < 64) {hh : Hd} (hN : N q = some hh) :
    ∃ A c B d, (∀ w', Below w.heap.size w w' → (Instr.lookup 122 (.map (some b)) (.int .i64 (q : Int)) false).run Tryz.prog w' = .ok (hdV hh.x A c B d hh.l) w') ∧ LaAt w (laV hh.x.o hh.x.s hh.x.a hh.x.ov A hh.x.adj.length c B hh.x.pre.length d) hh.x := by
  obtain ⟨⟨M, hm, he⟩, hc⟩ := h
  have heq := he q hq
  rw [hN] at heq
  cases hM : M (q : Int) with
  | none => rw [hM] at heq; exact heq.elim
  | some vv =>
    rw [hM] at heq
    obtain ⟨A, c, B, d, rfl, hla⟩ := heq
    refine ⟨A, c, B, d, fun w' hb => ?_, hla.1⟩
    have := (hm.below hb).run_at (i := (q : Int)) (wf64 (by omega) (by omega))
    rw [hM] at this
    exact this
/-- Behind another database's turn. -/
theorem DbAt.keptOther {w w' : World} {g b b' : Nat} {N : Db} {M' : Int → Option Value} (h : DbAt w g b N) (hm' : MapIs w b' M') (hg : w.grownBy w' (some b')) (hne : b ≠ b') : DbAt w' g b N := by
  obtain ⟨⟨M, hm, he⟩, hc⟩ := h
  refine ⟨⟨M, hm.kept hg (fun e => by injection e with e; exact hne e.symm), fun i hi => (he i hi).keptMap hm' hg⟩, ?_⟩
  rw [World.cell?_of_block (a := ⟨g, 0, none⟩) (hg.block g (World.block_lt_of_cell? _ _ hc) (fun e => by injection e with e; subst e; rw [hm'.no_cell] at hc; cases hc))]
  exact hc
theorem DbAt.map {w : World} {g b : Nat} {N : Db} (h : DbAt w g b N) : ∃ M, MapIs w b M := by
  obtain ⟨⟨M, hm, _⟩, _⟩ := h
  exact ⟨M, hm⟩

/-- 'x.a'. -/
theorem hd_field (x : La) (A : Option Addr) (c : Nat) (B : Option Addr) (d : Nat) (l : Int) (W : World) : (Instr.field 156 (hdV x A c B d l) 0).run Tryz.prog W = .ok (laV x.o x.s x.a x.ov A x.adj.length c B x.pre.length d) W := by kernel_rfl

/-- What Equal answers. -/
def sameAt (N M : Db) (i : Int) : Bool := match N i.toNat, M i.toNat with | some a, some b => sameB a.x b.x | _, _ => true
def eqDb (N M : Db) : Bool := decide (orgs N = orgs M) && (orgs N).all (sameAt N M)

end Go.Proofs.YtbkpholkjgjicaaGreat

namespace Go.Proofs.YtbkpholkjgjicaaGreat
set_option linter.unusedVariables false
open Go.RowKit Go.Maps Go.Sort

/-- The cells of an element. -/
theorem lx_cells {w : World} {b off : Nat} {l : List Lx} (h : Rd w (some ⟨b, off, none⟩) (lxV l)) (k : Nat) (hk : k < l.length) (s : Lx) (hs : l[k] = s) :
    w.cell? ⟨b, off + k * 6, none⟩ = some (.int .i64 s.y.o) ∧ w.cell? ⟨b, off + k * 6 + 1, none⟩ = some (.int .i64 s.y.s) ∧ w.cell? ⟨b, off + k * 6 + 2, none⟩ = some (.int .i64 s.y.a) ∧
    w.cell? ⟨b, off + k * 6 + 3, none⟩ = some (.bool s.y.ov) ∧ w.cell? ⟨b, off + k * 6 + 4, none⟩ = some (.slice s.A s.y.adj.length s.c) ∧ w.cell? ⟨b, off + k * 6 + 5, none⟩ = some (.slice s.B s.y.pre.length s.d) := by
  subst hs
  obtain ⟨b', off', e, hc⟩ := rd_lx h (by omega)
  injection e with e
  injection e with e1 e2 e3
  subst e1 e2
  have x0 := hc k hk 0 _ (by omega) rfl
  have x1 := hc k hk 1 _ (by omega) rfl
  have x2 := hc k hk 2 _ (by omega) rfl
  have x3 := hc k hk 3 _ (by omega) rfl
  have x4 := hc k hk 4 _ (by omega) rfl
  have x5 := hc k hk 5 _ (by omega) rfl
  simp only [Nat.add_zero] at x0
  exact ⟨x0, x1, x2, x3, x4, x5⟩
theorem lx_form {w : World} {A : Option Addr} {l : List Lx} (h : Rd w A (lxV l)) (hn : 0 < l.length) : ∃ b off, A = some ⟨b, off, none⟩ := by
  obtain ⟨b, off, e, _⟩ := rd_lx h hn
  exact ⟨b, off, e⟩
theorem St.via {W w w' : World} {bs : List (Nat × List Value)} {rs : List (Option Addr × List Value)} {g : Nat} (S : St W w bs rs) (hg : w.grownBy w' (some g)) (hB : W.heap.size ≤ g) (hd : ∀ x ∈ bs, x.1 ≠ g ∧ 0 < x.2.length) : St W w' bs rs :=
  ⟨below_via S.b hg hB S.b.size, fun i x hx => (S.bx i x hx).kept hg (fun e => by injection e with e; exact (hd x (List.mem_of_getElem? hx)).1 e) (hd x (List.mem_of_getElem? hx)).2, S.rd⟩
/-- The advertisements of a list. -/
abbrev laL (l : List Lx) : List La := l.map (·.y)
theorem laL_get (l : List Lx) (k : Nat) (hk : k < l.length) : (laL l)[k]'(by simpa [laL] using hk) = l[k].y := by simp [laL]
theorem insts_next (l : List Lx) (k : Nat) (hk : k < l.length) : insts ((laL l).take (k + 1)) = instN (insts ((laL l).take k)) l[k].y := by
  rw [List.take_succ_eq_append_getElem (by simpa [laL] using hk), insts_snoc, laL_get l k hk]
def AllV (l : List La) : Prop := ∀ a ∈ l, LaValid a ∧ fewB a = true
theorem allV_next {l : List Lx} {k : Nat} (hk : k < l.length) (h : AllV ((laL l).take k)) (h1 : LaValid l[k].y) (h2 : fewB l[k].y = true) : AllV ((laL l).take (k + 1)) := by
  rw [List.take_succ_eq_append_getElem (by simpa [laL] using hk), laL_get l k hk]
  intro a ha
  rcases List.mem_append.1 ha with ha | ha
  · exact h a ha
  · rw [List.mem_singleton.1 ha]; exact ⟨h1, h2⟩
theorem fnd_next (l : List Lx) (x : La) (k : Nat) (hk : k < l.length) : ((laL l).take (k + 1)).any (fun a => sameB a x) = (((laL l).take k).any (fun a => sameB a x) || sameB l[k].y x) := by
  rw [List.take_succ_eq_append_getElem (by simpa [laL] using hk), laL_get l k hk, List.any_append]
  simp

end Go.Proofs.YtbkpholkjgjicaaGreat

namespace Go.Proofs.YtbkpholkjgjicaaGreat
set_option linter.unusedVariables false
open Go.RowKit Go.Maps Go.Sort

theorem own_rowNe {w w' : World} {base : Nat} {e : TypeId} {size : Nat} {v : Value} {n : Nat} {xs : List Value} {row : Option Nat} (h : w.ownsRow base e size v n xs) (hg : w.grownBy w' row) (hne : v.ownBlock = none ∨ v.ownBlock ≠ row) : w'.ownsRow base e size v n xs := by
  refine ⟨h.1, ?_⟩
  rcases h.2 with h2 | ⟨g, cap, cur, rfl, hgb, hh, r⟩
  · exact .inl h2
  · exact .inr ⟨g, cap, cur, rfl, hgb, (hg.block g (h.lt g rfl).2 (fun e => by
      rcases hne with h3 | h3
      · cases h3
      · exact h3 e)).trans hh, r⟩
theorem LaOwn.app {w w' : World} {base base2 : Nat} {u : Value} {x : La} {v2 : Value} {n : Nat} {xs : List Value} (h : LaOwn w base u x) (hl : w.ownsRow base2 52 6 v2 n xs) (hg : w.grownBy w' v2.ownBlock) : LaOwn w' base u x := by
  obtain ⟨A, c, B, d, rfl, o1, o2, hu⟩ := h
  exact ⟨A, c, B, d, rfl, own_rowNe o1 hg (own_ne o1 hl (by decide)), own_rowNe o2 hg (own_ne o2 hl (by decide)), hu⟩
theorem LaOwn.mono' {w : World} {base base' : Nat} {u : Value} {x : La} (h : LaOwn w base u x) (hb : base' ≤ base) : LaOwn w base' u x := by
  obtain ⟨A, c, B, d, rfl, o1, o2, hu⟩ := h
  exact ⟨A, c, B, d, rfl, own_mono o1 hb, own_mono o2 hb, hu⟩
/-- An advertisement of the call's own. -/
def LxOwn (w : World) (base : Nat) (s : Lx) : Prop := LaOwn w base (laV s.y.o s.y.s s.y.a s.y.ov s.A s.y.adj.length s.c s.B s.y.pre.length s.d) s.y
theorem LxOwn.ok {w : World} {base : Nat} {s : Lx} (h : LxOwn w base s) : LxOk w s := LaOwn.at h
def allN (N : Db) : List La := (orgs N).map fun i => getX (N i.toNat)
def DAllPost (w : World) (N : Db) (e : Ending) (w' : World) : Prop :=
  ∃ A c ls, e = .returned (.slice A (orgs N).length c) ∧ w'.ownsRow w.heap.size 52 6 (.slice A (orgs N).length c) (orgs N).length (lxV ls) ∧ laL ls = allN N ∧ (∀ s ∈ ls, LxOwn w' w.heap.size s) ∧ Below w.heap.size w w'
/-- Within the loop. -/
structure AllAt (w wr : World) (N : Db) (B : Option Addr) (d : Nat) (k : Nat) (v : Value) (ls : List Lx) : Prop where
  og : wr.ownsRow w.heap.size 3 1 (.slice B (orgs N).length d) (orgs N).length ((orgs N).map encZ)
  own : wr.ownsRow w.heap.size 52 6 v k (lxV ls)
  la : laL ls = (allN N).take k
  ok : ∀ s ∈ ls, LxOwn wr w.heap.size s
  bel : Below w.heap.size w wr
theorem AllAt.below {w wr w' : World} {N : Db} {B : Option Addr} {d k : Nat} {v : Value} {ls : List Lx} (h : AllAt w wr N B d k v ls) (hb : Below wr.heap.size wr w') : AllAt w w' N B d k v ls :=
  ⟨own_below h.og hb, own_below h.own hb, h.la, fun s hs => LaOwn.below (h.ok s hs) hb, h.bel.trans (hb.mono h.bel.size)⟩
theorem AllAt.app {w wr w' : World} {N : Db} {B : Option Addr} {d k : Nat} {v v' : Value} {ls : List Lx} (h : AllAt w wr N B d k v ls) {s : Lx} (hs : LxOwn wr w.heap.size s) (hk : k < (orgs N).length) (hy : s.y = getX (N (orgs N)[k].toNat))
    (ho : w'.ownsRow w.heap.size 52 6 v' (k + 1) (lxV ls ++ lxL s)) (hb : Below w.heap.size wr w') (hg : wr.grownBy w' v.ownBlock) : AllAt w w' N B d (k + 1) v' (ls ++ [s]) := by
  refine ⟨own_rowNe h.og hg (own_ne h.og h.own (by decide)), by rw [lxV_append]; simpa [lxV] using ho, ?_, fun z hz => ?_, h.bel.trans hb⟩
  · have hk2 : k < (allN N).length := by simpa [allN] using hk
    rw [List.take_succ_eq_append_getElem hk2, ← h.la]
    have e2 : (allN N)[k] = s.y := by rw [hy]; simp [allN]
    rw [e2]; simp [laL]
  · rcases List.mem_append.1 hz with hz | hz
    · exact LaOwn.app (h.ok z hz) h.own hg
    · rw [List.mem_singleton.1 hz]; exact LaOwn.app hs h.own hg

set_option maxRecDepth 100000 in
set_option maxHeartbeats 6400000 in
theorem dall_any (w : World) (g b : Nat) (N : Db) (h : DbAt w g b N) (hok : DbOk N) : Calls Tryz.prog 41 #[.pointer (some ⟨g, 0, none⟩)] w (DAllPost w N) := by
  have O := dorigins_any w g b N h
  have hlen := orgs_len N
  have hfin : Hid (∀ w' A c ls B d, AllAt w w' N B d (orgs N).length (.slice A (orgs N).length c) ls → DAllPost w N (.returned (.slice A (orgs N).length c)) w') := fun w' A c ls B d T => ⟨A, c, ls, rfl, T.own, by rw [T.la, List.take_of_length_le (by simp [allN])], T.ok, T.bel⟩
  obtain ⟨n, hn⟩ : ∃ n, (orgs N).length = n := ⟨_, rfl⟩
  rw [hn] at O hlen hfin
  replace O := Lib.hid O
  replace hok := Lib.hid hok
  replace hn := Lib.hid hn
  replace h := Lib.hid h
  go_enter Tryz.func41, Tryz.ntmps41
  go_wp2_with fail
  (with_reducible refine (O.out).mono ?_)
  rintro e w1 ⟨B, d, rfl, o14, hb⟩
  have hT : Hid (AllAt w w1 N B d 0 (.slice none 0 0) []) := ⟨by rw [hn.out]; exact o14, World.ownsRow_nil _ _ _ _, by simp [laL], by simp, hb⟩
  clear O o14 hb
  go_wp2_with fail
  go_loopw [3, 9] (fun v3 v9 wr => ∃ (k : Nat) (A : Option Addr) (c : Nat) (ls : List Lx), v9 = .int .i64 k ∧ v3 = .slice A k c ∧ k ≤ n ∧ Hid (AllAt w wr N B d k (.slice A k c) ls)) (fun _ v9 _ => n - (intOf v9).toNat)
  case atStart => exact ⟨0, none, 0, [], rfl, rfl, by omega, hT⟩
  case round =>
    clear hT
    obtain ⟨k, A, c, ls, rfl, rfl, hk, hT⟩ := hrel
    by_cases hkn : k < n
    · have hkl : k < (orgs N).length := by rw [hn.out]; exact hkn
      have hm1 := (orgs_mem (N := N) (orgs N)[k]).1 (List.getElem_mem hkl)
      have T := hT.out
      have og := T.og
      rw [hn.out] at og
      obtain ⟨b14, off14, rfl, hz14⟩ := rd_at (own_slice og) (by simp only [List.length_map]; omega)
      have z14 := hz14 k _ (by rw [List.getElem?_map, List.getElem?_eq_getElem hkl]; rfl)
      obtain ⟨q, hq⟩ := Int.eq_ofNat_of_zero_le hm1.1.1
      rw [hq] at hm1 z14
      rw [Int.toNat_natCast] at hm1
      have hq64 : q < 64 := by have := hm1.1.2; omega
      obtain ⟨x, hNq⟩ := Option.isSome_iff_exists.1 hm1.2
      have hgx : getX (N (orgs N)[k].toNat) = x.x := by rw [hq, Int.toNat_natCast, hNq]; rfl
      have hd := h.out.below T.bel
      obtain ⟨A1, c1, B1, d1, L1, la1⟩ := hd.el hq64 hNq
      have hf := hok.out.few q x hNq
      have x0 := hd.cell
      have K1 := L1 wr (Below.refl _ _)
      have FL1 := hd_field x.x A1 c1 B1 d1 x.l
      have CL := dclone_any wr _ x.x la1 hf.1 hf.2
      unfold hdV at K1 FL1
      obtain ⟨y, hy⟩ : ∃ y, x.x = y := ⟨_, rfl⟩
      rw [hy] at K1 FL1 CL hgx
      replace CL := Lib.hid CL
      replace hgx := Lib.hid hgx
      clear hd og hz14 hm1 hq hNq L1 la1 hf hy hT
      replace T := Lib.hid T
      go_wp2_with fail
      (with_reducible refine (CL.out).mono ?_)
      rintro e w2 ⟨v2, rfl, hown, hb⟩
      clear z14 x0 K1 FL1 CL
      have hown' : LaOwn w2 w.heap.size v2 y := hown.mono' T.out.bel.size
      replace T := T.out.below hb
      obtain ⟨A5, c5, B5, d5, hv5⟩ := hown'.at.form
      subst hv5
      have hb3 := below_new' w2 (.cells #[.int .i64 y.o, .int .i64 y.s, .int .i64 y.a, .bool y.ov, .slice A5 y.adj.length c5, .slice B5 y.pre.length d5] 52)
      have rd0 := Rd.lit w2 #[.int .i64 y.o, .int .i64 y.s, .int .i64 y.a, .bool y.ov, .slice A5 y.adj.length c5, .slice B5 y.pre.length d5] 52
      have T3 := T.below hb3
      have hown3 : LxOwn _ w.heap.size ⟨y, A5, c5, B5, d5⟩ := LaOwn.below hown' hb3
      have hsz := T3.bel.size
      have o3 := T3.own
      clear hown hown' hb hb3 T
      replace T3 := Lib.hid T3
      replace hown3 := Lib.hid hown3
      go_wp2_with (at_builtin; refine wpList_appB rfl laT (.tmp 13) (.tmp 22) rfl w.heap.size rfl o3 (m := 1) rfl (by simp) rd0 (lxL_one ⟨y, A5, c5, B5, d5⟩) (by simp only [maxLen]; omega) (by omega) hsz (k + 1) _ rfl rfl ?_; intro v6 w6 o6 hbel6 hg6 hv6)
      obtain ⟨A7, c7, rfl, -⟩ := own_rd o6
      have T4 := Lib.hid (T3.out.app hown3.out hkl hgx.out.symm o6 hbel6 hg6)
      clear o6 hbel6 hg6 hv6 o3 rd0 T3 hown3 hsz
      go_wp2_with fail
      go_round
      case rel => exact ⟨k + 1, A7, c7, _, by go_num, rfl, by omega, T4⟩
      case measure => simp [intOf]; omega
    · obtain rfl : k = n := by omega
      have hf := hfin.out _ _ _ _ _ _ hT.out
      replace hf := Lib.hid hf
      go_wp2_with fail
      go_ret
      exact hf.out

end Go.Proofs.YtbkpholkjgjicaaGreat
