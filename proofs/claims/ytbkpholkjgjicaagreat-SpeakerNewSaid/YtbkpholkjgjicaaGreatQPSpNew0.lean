/-
  The texts NewR, LaC, Fl1, Lay, FlK, Fl2, SKeys, DbM, Db1, Db2, one after the other.
-/
import Derived.Test.YtbkpholkjgjicaaGreatNew
import Derived.Test.YtbkpholkjgjicaaGreatEncR
import Derived.Test.YtbkpholkjgjicaaGreatValR
import Derived.Test.YtbkpholkjgjicaaGreatSmR
import Derived.Deep.RegionLaw
import Derived.Deep.DeepCutAuto
import Derived.WalkLawsBesides
import Derived.Test.YtbkpholkjgjicaaGreatSame
import Derived.Test.YtbkpholkjgjicaaGreatPurge
import Derived.Test.YtbkpholkjgjicaaGreatDecR
import Derived.Lib.QuietBelow
import Derived.Test.YtbkpholkjgjicaaGreatMapB
import Derived.Test.YtbkpholkjgjicaaGreatClone
import Derived.Shelf.SlIterI.Nil
import Derived.Shelf.SortM.Plain
import Derived.Shelf.SortM.SortNone
import Derived.Ground.GgzProg
import Derived.Ground.SlgmProg
import Derived.Test.YtbkpholkjgjicaaGreatProg
import Derived.Test.YtbkpholkjgjicaaGreatMem
import Derived.Test.YtbkpholkjgjicaaGreatChecked
import Derived.Shelf.AbstractIn
import Derived.Maps.OwnSet
import Derived.Sort.OwnSortedInts
import Derived.StillTailTactics
namespace Go.Proofs.YtbkpholkjgjicaaGreat
set_option linter.unusedVariables false
open Go.RowKit

theorem less_cmp : ∀ (a b : List UInt8), Op.bytesLess a b = (Lib.compareBytes a b == -1)
  | [], [] => rfl
  | [], _ :: _ => rfl
  | _ :: _, [] => rfl
  | x :: a, y :: b => by
    unfold Op.bytesLess Lib.compareBytes
    by_cases h1 : x < y
    · simp [h1]
    · by_cases h2 : y < x
      · have : x ≠ y := fun e => by subst e; exact absurd h2 (UInt8.lt_irrefl x)
        simp [h1, h2, this]
      · have e : x = y := UInt8.le_antisymm (UInt8.not_lt.1 h2) (UInt8.not_lt.1 h1)
        subst e
        simp [less_cmp a b]
theorem cmp_eq0 : ∀ (a b : List UInt8), Lib.compareBytes a b = 0 ↔ a = b
  | [], [] => by simp [Lib.compareBytes]
  | [], _ :: _ => by simp [Lib.compareBytes]
  | _ :: _, [] => by simp [Lib.compareBytes]
  | x :: a, y :: b => by
    unfold Lib.compareBytes
    by_cases h1 : x < y
    · have : x ≠ y := fun e => by subst e; exact absurd h1 (UInt8.lt_irrefl x)
      simp [h1, this]
    · by_cases h2 : y < x
      · have : x ≠ y := fun e => by subst e; exact absurd h2 (UInt8.lt_irrefl x)
        simp [h1, h2, this]
      · have e : x = y := UInt8.le_antisymm (UInt8.not_lt.1 h2) (UInt8.not_lt.1 h1)
        subst e
        simp [cmp_eq0 a b]
theorem cmp_bd : ∀ (a b : List UInt8), Lib.compareBytes a b = -1 ∨ Lib.compareBytes a b = 0 ∨ Lib.compareBytes a b = 1
  | [], [] => by simp [Lib.compareBytes]
  | [], _ :: _ => by simp [Lib.compareBytes]
  | _ :: _, [] => by simp [Lib.compareBytes]
  | x :: a, y :: b => by
    unfold Lib.compareBytes
    have := cmp_bd a b
    split
    · simp
    · split
      · simp
      · exact this

end Go.Proofs.YtbkpholkjgjicaaGreat

namespace Go.Proofs.YtbkpholkjgjicaaGreat
set_option linter.unusedVariables false
open Go.RowKit

theorem valid_at (w : World) (v : Value) (x : La) (h : LaAt w v x) : Calls Tryz.prog 77 #[v] w fun e w' => e = .returned (.bool (vB x)) ∧ Below w.heap.size w w' := by
  obtain ⟨A, c, B, d, rfl, rA, rB, h1, h2, h3, h4, hu⟩ := h
  exact valid_any x.o x.s x.a x.ov x.adj x.pre A _ c B _ d w rfl rfl rA rB hu
def EncPost (w : World) (x : La) (e : Ending) (w' : World) : Prop :=
  ∃ A c, e = .returned (.tuple #[.slice A (lencB x).length c, .int .i64 (lencE x)]) ∧ w'.ownsRow w.heap.size 5 1 (.slice A (lencB x).length c) (lencB x).length ((lencB x).map u8v) ∧ Below w.heap.size w w'
theorem enc_at (w : World) (v : Value) (x : La) (h : LaAt w v x) : Calls Tryz.prog 55 #[v] w (EncPost w x) := by
  obtain ⟨A, c, B, d, rfl, rA, rB, h1, h2, h3, h4, hu⟩ := h
  refine (lencode_any x.o x.s x.a x.ov x.adj x.pre A _ c B _ d w rfl rfl rA rB hu).mono ?_
  rintro e w' ⟨v, he, hown, hb⟩
  obtain ⟨A', c', rfl, _⟩ := own_rd hown
  exact ⟨A', c', he, hown, hb⟩
def REncPost (w : World) (x : La) (e : Ending) (w' : World) : Prop :=
  ∃ A c, e = .returned (.slice A (laEnc x).length c) ∧ w'.ownsRow w.heap.size 5 1 (.slice A (laEnc x).length c) (laEnc x).length ((laEnc x).map u8v) ∧ Below w.heap.size w w'
theorem LaAt.ok {w : World} {v : Value} {x : La} (h : LaAt w v x) : ∀ p ∈ x.pre, p.1 < 4294967296 := by
  obtain ⟨A, c, B, d, _, _, _, _, _, _, _, hu⟩ := h
  exact hu
theorem LaAt.form {w : World} {v : Value} {x : La} (h : LaAt w v x) : ∃ A c B d, v = laV x.o x.s x.a x.ov A x.adj.length c B x.pre.length d := by
  obtain ⟨A, c, B, d, hv, _⟩ := h
  exact ⟨A, c, B, d, hv⟩
/-- Both at once: what an advertisement's value is, and that it is there in all later worlds. -/
theorem LaAt.open {w : World} {v : Value} {x : La} (h : LaAt w v x) : ∃ A c B d, v = laV x.o x.s x.a x.ov A x.adj.length c B x.pre.length d ∧ Hid (∀ W', Below w.heap.size w W' → LaAt W' (laV x.o x.s x.a x.ov A x.adj.length c B x.pre.length d) x) := by
  obtain ⟨A, c, B, d, hv⟩ := h.form
  subst hv
  exact ⟨A, c, B, d, rfl, fun W' hb => h.below hb⟩
theorem LaOwn.open {w : World} {base : Nat} {v : Value} {x : La} (h : LaOwn w base v x) : ∃ A c B d, v = laV x.o x.s x.a x.ov A x.adj.length c B x.pre.length d ∧ Hid (∀ W', Below w.heap.size w W' → LaAt W' (laV x.o x.s x.a x.ov A x.adj.length c B x.pre.length d) x) := h.at.open

theorem St.lt {W w : World} {bs : List (Nat × List Value)} {rs : List (Option Addr × List Value)} (S : St W w bs rs) (i : Nat) {g : Nat} {cs : List Value} (hi : bs[i]? = some (g, cs)) (hn : 0 < cs.length) : g < w.heap.size := (S.box i hi).lt hn
/-- The numbers were stored anew. -/
theorem LaAt.renum {w : World} {o s a : Int} {ov : Bool} {A : Option Addr} {n c : Nat} {B : Option Addr} {m d : Nat} {x : La} (h : LaAt w (laV o s a ov A n c B m d) x) (o' s' a' : Int) (ov' : Bool) :
    LaAt w (laV o' s' a' ov' A n c B m d) ⟨o', s', a', ov', x.adj, x.pre⟩ := by
  obtain ⟨A9, c9, B9, d9, e9, r1, r2, l1, l2, l3, l4, hu⟩ := h
  simp only [laV, Value.agg.injEq, Array.mk.injEq, List.cons.injEq, Value.slice.injEq, and_true] at e9
  obtain ⟨_, _, _, _, ⟨rfl, rfl, rfl⟩, rfl, rfl, rfl⟩ := e9
  exact ⟨_, _, _, _, rfl, r1, r2, l1, l2, l3, l4, hu⟩
theorem LaAt.opened {w : World} {v : Value} {x : La} (h : LaAt w v x) : ∃ A c B d, v = laV x.o x.s x.a x.ov A x.adj.length c B x.pre.length d ∧ LaAt w (laV x.o x.s x.a x.ov A x.adj.length c B x.pre.length d) x := by
  obtain ⟨A, c, B, d, hv⟩ := h.form
  subst hv
  exact ⟨A, c, B, d, rfl, h⟩
theorem belowR {B : Nat} {w w1 : World} (h : Below B w w1) (d : Nat) (os : Array Obj) (hs : B ≤ w1.heap.size) : Below B w (Go.Sort.grow (redrawn w1 d) os) := h.trans ((below_regrown w1 d os).mono hs)

end Go.Proofs.YtbkpholkjgjicaaGreat

namespace Go.Proofs.YtbkpholkjgjicaaGreat.Fd
set_option linter.unusedVariables false
open Go.RowKit Go.Maps Go.Sort

set_option maxRecDepth 100000 in
set_option maxHeartbeats 1600000 in
theorem fclone_any (w : World) (v : Value) (x : La) (h : LaAt w v x) (hb1 : x.adj.length ≤ 1000000) (hb2 : x.pre.length ≤ 1000000) :
    Calls Tryz.prog 111 #[v] w fun e w' => ∃ v', e = .returned v' ∧ LaOwn w' w.heap.size v' x ∧ Below w.heap.size w w' := by
  obtain ⟨A, c, B, d, rfl, rA, rB, h1, h2, h3, h4, hu⟩ := h
  have S := ((((St.start w).read rB).read rA).new' #[.int .i64 x.o, .int .i64 x.s, .int .i64 x.a, .bool x.ov, .slice A x.adj.length c, .slice B x.pre.length d] 52 w.heap.size _ rfl rfl).new' #[.int .i64 0, .int .i64 0, .int .i64 0, .bool false, .slice none 0 0, .slice none 0 0] 52 (w.heap.size + 1) _ (by simp) rfl
  have C1 := fun W (h : Rd W A (adV x.adj)) => clone_ad W A _ c x.adj h rfl hb1
  have C2 := fun W (h : Rd W B (pfV x.pre)) => clone_pf W B _ d x.pre h rfl hb2
  have hfin : ∀ W' A' c' B' d', W'.ownsRow w.heap.size 134 3 (.slice A' x.adj.length c') x.adj.length (adV x.adj) → W'.ownsRow w.heap.size 100 2 (.slice B' x.pre.length d') x.pre.length (pfV x.pre) → LaOwn W' w.heap.size (laV x.o x.s x.a x.ov A' x.adj.length c' B' x.pre.length d') x := fun W' A' c' B' d' a b => ⟨A', c', B', d', rfl, a, b, hu⟩
  clear rA rB hu
  replace C1 := Lib.hid C1
  replace C2 := Lib.hid C2
  replace hfin := Lib.hid hfin
  generalize x.adj.length = n at *
  generalize x.pre.length = m at *
  generalize x.ov = ov at *
  generalize x.o = o at *
  generalize x.s = s at *
  generalize x.a = ag at *
  have a0 := S.c 1 0 rfl rfl
  have a1 := S.c 1 1 rfl rfl
  have a2 := S.c 1 2 rfl rfl
  have a3 := S.c 1 3 rfl rfl
  have a4 := S.c 1 4 rfl rfl
  have a5 := S.c 1 5 rfl rfl
  go_enter Tryz.func111, Tryz.ntmps111
  go_wp2_with fail
  (with_reducible refine (C1.out _ (S.r 0 rfl)).mono ?_)
  rintro e w1 ⟨A1, c1, rfl, o1, hb⟩
  clear a0 a1 a2 a3 a4 a5
  replace S := S.call hb
  clear hb C1
  simp only [World.size_alloc] at o1
  have f1 := S.f 1 4 rfl rfl
  have a0 := S.c 1 0 rfl rfl
  have a1 := S.c 1 1 rfl rfl
  have a2 := S.c 1 2 rfl rfl
  have a3 := S.c 1 3 rfl rfl
  have a4 := S.c 1 4 rfl rfl
  have a5 := S.c 1 5 rfl rfl
  have S2 := S.set 1 4 (.slice A1 n c1) rfl (by simp) (Nat.le_refl _) (by simp) _ rfl
  replace o1 := ownsRow_setCell_below (a := ⟨w.heap.size, 4, none⟩) o1 (by simp only; omega) (.slice A1 n c1)
  have hsz := S2.b.size
  have hlt := S2.lt 0 rfl (by simp)
  go_wp2_with fail
  generalize w1.setCell ⟨w.heap.size, 4, none⟩ (.slice A1 n c1) = w2 at *
  (with_reducible refine (C2.out _ (S2.r 1 rfl)).mono ?_)
  rintro e w3 ⟨B1, d1, rfl, o2, hb⟩
  clear a0 a1 a2 a3 a4 a5
  clear f1 C2 S
  replace o1 := own_below o1 hb
  replace S2 := S2.call hb
  clear hb
  have f2 := S2.f 1 5 rfl rfl
  have e0 := S2.f 0 0 rfl rfl
  have e1 := S2.f 0 1 rfl rfl
  have e2 := S2.f 0 2 rfl rfl
  have e3 := S2.f 0 3 rfl rfl
  have e4 := S2.f 0 4 rfl rfl
  have e5 := S2.f 0 5 rfl rfl
  have a0 := S2.c 1 0 rfl rfl
  have a1 := S2.c 1 1 rfl rfl
  have a2 := S2.c 1 2 rfl rfl
  have a3 := S2.c 1 3 rfl rfl
  have a4 := S2.c 1 4 rfl rfl
  have a5 := S2.c 1 5 rfl rfl
  have b0 := S2.c 0 0 rfl rfl
  have b1 := S2.c 0 1 rfl rfl
  have b2 := S2.c 0 2 rfl rfl
  have b3 := S2.c 0 3 rfl rfl
  have b4 := S2.c 0 4 rfl rfl
  have b5 := S2.c 0 5 rfl rfl
  have S9 := (S2.set 1 5 (.slice B1 m d1) rfl (by simp) (Nat.le_refl _) (by simp) _ rfl).set6 o s ag ov (.slice A1 n c1) (.slice B1 m d1) (by omega) (by simp)
  have o3 := own_set6 (ownsRow_setCell_below (a := ⟨w.heap.size, 5, none⟩) o1 (by simp only; omega) (.slice B1 m d1)) (g := w.heap.size + 1) (by omega) (.int .i64 o) (.int .i64 s) (.int .i64 ag) (.bool ov) (.slice A1 n c1) (.slice B1 m d1)
  have o4 := own_set6 (ownsRow_setCell_below (a := ⟨w.heap.size, 5, none⟩) o2 (by simp only; omega) (.slice B1 m d1)) (g := w.heap.size + 1) (by omega) (.int .i64 o) (.int .i64 s) (.int .i64 ag) (.bool ov) (.slice A1 n c1) (.slice B1 m d1)
  have hf := hfin.out _ _ _ _ _ (own_mono o3 (by omega)) (own_mono o4 (by omega))
  have hb9 := S9.b
  go_wp2_with fail
  exact bodyPost_ret (v := laV o s ag ov A1 n c1 B1 m d1) (by simp [results, Tryz.results111, go_sem, b0, b1, b2, b3, b4, b5]) rfl ⟨_, rfl, hf, hb9⟩

/-! ### The flooder -/
/-- What is pending: an advertisement, and the ticks until it is due. -/
structure Hd where
  x : La
  l : Int
abbrev Db := Nat → Option Hd
abbrev Fn := Nat → Option Db
abbrev hdV (x : La) (A : Option Addr) (c : Nat) (B : Option Addr) (d : Nat) (l : Int) : Value := .agg #[.int .i64 x.o, .int .i64 x.s, .int .i64 x.a, .bool x.ov, .slice A x.adj.length c, .slice B x.pre.length d, .int .i64 l]
abbrev hdZ : Value := .agg #[.int .i64 0, .int .i64 0, .int .i64 0, .bool false, .slice none 0 0, .slice none 0 0, .int .i64 0]
def ElAt (w : World) : Option Value → Option Hd → Prop
  | none, none => True
  | some v, some h => ∃ A c B d, v = hdV h.x A c B d h.l ∧ LaAt w (laV h.x.o h.x.s h.x.a h.x.ov A h.x.adj.length c B h.x.pre.length d) h.x
  | _, _ => False
theorem ElAt.below {w w' : World} {v : Option Value} {h : Option Hd} (he : ElAt w v h) (hb : Below w.heap.size w w') : ElAt w' v h := by
  match v, h, he with
  | none, none, _ => trivial
  | some v, some h, ⟨A, c, B, d, e, hl⟩ => exact ⟨A, c, B, d, e, LaAt.below hl hb⟩
theorem ElAt.isS {w : World} {v : Option Value} {h : Option Hd} (he : ElAt w v h) : v.isSome = h.isSome := by
  match v, h, he with
  | none, none, _ => rfl
  | some v, some h, _ => rfl
/-- Nothing but maps has turned. -/
structure Kq (w w' : World) : Prop where
  os : w'.os = w.os
  tape : w'.tape = w.tape
  output : w'.output = w.output
  size : w.heap.size ≤ w'.heap.size
  block : ∀ k, k < w.heap.size → (∀ es c, w.heap[k]? ≠ some (.map es c)) → w'.heap[k]? = w.heap[k]?
theorem isMap_lt {w : World} {k : Nat} {es : Array MapEntry} {c : Nat} (h : w.heap[k]? = some (.map es c)) : k < w.heap.size := (Array.getElem?_eq_some_iff.1 h).1
section
variable {w w' w'' : World}
theorem Kq.refl (w : World) : Kq w w := ⟨rfl, rfl, rfl, Nat.le_refl _, fun _ _ _ => rfl⟩
theorem Kq.trans (h : Kq w w') (h2 : Kq w' w'') : Kq w w'' :=
  ⟨h2.os.trans h.os, h2.tape.trans h.tape, h2.output.trans h.output, Nat.le_trans h.size h2.size, fun k hk hne => (h2.block k (Nat.lt_of_lt_of_le hk h.size) (by rw [h.block k hk hne]; exact hne)).trans (h.block k hk hne)⟩
theorem Kq.of_below (hb : Below w.heap.size w w') : Kq w w' := ⟨hb.os, hb.tape, hb.output, hb.size, fun k hk _ => hb.block k hk⟩
theorem MapIs.isMap {B b : Nat} {M : Int → Option Value} (h : MapIs B w b M) : ∃ es c, w.heap[b]? = some (.map es c) := by
  obtain ⟨D, ⟨es, clock, hb, _⟩, _⟩ := h
  exact ⟨es, clock, hb⟩
theorem Kq.of_map {B b : Nat} {M : Int → Option Value} (h : MapIs B w b M) (hg : w.grownBy w' (some b)) : Kq w w' := by
  obtain ⟨es, c, hm⟩ := h.isMap
  exact ⟨hg.os, hg.tape, hg.output, hg.size, fun k hk hne => hg.block k hk (fun e => by injection e with e; subst e; exact hne _ _ hm)⟩
theorem not_map_of_cell {a : Addr} {v : Value} (h : w.cell? a = some v) : ∀ es c, w.heap[a.block]? ≠ some (.map es c) := fun es c e => by
  simp [World.cell?, e] at h
theorem Kq.cell (h : Kq w w') {a : Addr} {v : Value} (hc : w.cell? a = some v) : w'.cell? a = some v := by
  rw [World.cell?_of_block (h.block a.block (World.block_lt_of_cell? _ _ hc) (not_map_of_cell hc))]; exact hc
theorem Kq.rd (h : Kq w w') {A : Option Addr} {xs : List Value} (hr : Rd w A xs) : Rd w' A xs := fun hn => by
  obtain ⟨ad, e, hc⟩ := hr hn
  exact ⟨ad, e, fun j u hu => h.cell (hc j u hu)⟩
theorem Kq.box (h : Kq w w') {g : Nat} {cs : List Value} (hb : Box w g cs) : Box w' g cs := fun i u hu => by
  obtain ⟨h1, h2⟩ := hb i u hu
  have hk := h.block g (World.block_lt_of_cell? _ _ h1) (not_map_of_cell h1)
  exact ⟨h.cell h1, (World.frozen?_of_block (a := ⟨g, i, none⟩) hk).trans h2⟩
theorem Kq.la (h : Kq w w') {v : Value} {x : La} (hl : LaAt w v x) : LaAt w' v x := by
  obtain ⟨A, c, B, d, rfl, h1, h2, h3⟩ := hl
  exact ⟨A, c, B, d, rfl, h.rd h1, h.rd h2, h3⟩
theorem Kq.el (h : Kq w w') {v : Option Value} {x : Option Hd} (he : ElAt w v x) : ElAt w' v x := by
  match v, x, he with
  | none, none, _ => trivial
  | some v, some x, ⟨A, c, B, d, e, hl⟩ => exact ⟨A, c, B, d, e, h.la hl⟩
theorem Kq.own (h : Kq w w') {base : Nat} {e : TypeId} {size : Nat} {v : Value} {n : Nat} {xs : List Value} (ho : w.ownsRow base e size v n xs) : w'.ownsRow base e size v n xs := by
  refine ⟨ho.1, ?_⟩
  rcases ho.2 with h2 | ⟨g, cap, cur, rfl, hgb, hh, r⟩
  · exact .inl h2
  · exact .inr ⟨g, cap, cur, rfl, hgb, (h.block g (ho.lt g rfl).2 (fun es c e => by rw [hh] at e; cases e)).trans hh, r⟩
theorem Kq.laOwn (h : Kq w w') {base : Nat} {v : Value} {x : La} (hl : LaOwn w base v x) : LaOwn w' base v x := by
  obtain ⟨A, c, B, d, rfl, h1, h2, h3⟩ := hl
  exact ⟨A, c, B, d, rfl, h.own h1, h.own h2, h3⟩
end
/-- The neighbours' map: each one's own map. -/
def nbM (N : Fn) (f : Nat → Nat) : Int → Option Value := fun i => if 0 ≤ i ∧ i < 256 then (N i.toNat).map (fun _ => .map (some (f i.toNat))) else none
theorem nbM_at {N : Fn} {f : Nat → Nat} {i : Nat} (hi : i < 256) : nbM N f (i : Int) = (N i).map (fun _ => .map (some (f i))) := by
  unfold nbM; rw [if_pos ⟨by omega, by omega⟩, Int.toNat_natCast]
def InAt (w : World) (k : Nat) (D : Db) : Prop := ∃ M, MapIs 64 w k M ∧ ∀ o : Nat, o < 64 → ElAt w (M (o : Int)) (D o)
/-- The flooder in block g, its neighbours' map in block b, a neighbour's own in block f i. -/
structure FlAt (w : World) (g b : Nat) (iv : Int) (N : Fn) (f : Nat → Nat) : Prop where
  c0 : w.cell? ⟨g, 0, none⟩ = some (.int .i64 iv)
  c1 : w.cell? ⟨g, 1, none⟩ = some (.map (some b))
  nb : MapIs 256 w b (nbM N f)
  el : ∀ i, i < 256 → ∀ D, N i = some D → InAt w (f i) D
  ne : ∀ i, i < 256 → (N i).isSome = true → f i ≠ b
  inj : ∀ i j, i < 256 → j < 256 → (N i).isSome = true → (N j).isSome = true → f i = f j → i = j
theorem InAt.below {w w' : World} {k : Nat} {D : Db} (h : InAt w k D) (hb : Below w.heap.size w w') : InAt w' k D := by
  obtain ⟨M, hm, he⟩ := h
  exact ⟨M, hm.below hb, fun o ho => (he o ho).below hb⟩
theorem InAt.kept {w w' : World} {k j : Nat} {D : Db} (h : InAt w k D) (hq : Kq w w') (hg : w.grownBy w' (some j)) (hne : k ≠ j) : InAt w' k D := by
  obtain ⟨M, hm, he⟩ := h
  exact ⟨M, hm.kept hg (fun e => by injection e with e; exact hne e.symm), fun o ho => hq.el (he o ho)⟩
theorem FlAt.below {w w' : World} {g b : Nat} {iv : Int} {N : Fn} {f : Nat → Nat} (h : FlAt w g b iv N f) (hb : Below w.heap.size w w') : FlAt w' g b iv N f :=
  ⟨cell_later hb h.c0, cell_later hb h.c1, h.nb.below hb, fun i hi D hD => (h.el i hi D hD).below hb, h.ne, h.inj⟩
theorem FlAt.lt {w : World} {g b : Nat} {iv : Int} {N : Fn} {f : Nat → Nat} (h : FlAt w g b iv N f) : g < w.heap.size ∧ b < w.heap.size := ⟨World.block_lt_of_cell? _ _ h.c0, h.nb.lt⟩
theorem FlAt.flt {w : World} {g b : Nat} {iv : Int} {N : Fn} {f : Nat → Nat} (h : FlAt w g b iv N f) {i : Nat} (hi : i < 256) (hs : (N i).isSome = true) : f i < w.heap.size := by
  obtain ⟨D, hD⟩ := Option.isSome_iff_exists.1 hs
  obtain ⟨M, hm, _⟩ := h.el i hi D hD
  exact hm.lt
/-- One neighbour's map has turned. -/
theorem FlAt.turn {w w' : World} {g b : Nat} {iv : Int} {N : Fn} {f : Nat → Nat} (h : FlAt w g b iv N f) {i : Nat} (hi : i < 256) (hs : (N i).isSome = true) {D' : Db} (hin : InAt w' (f i) D') (hg : w.grownBy w' (some (f i))) :
    FlAt w' g b iv (fun j => if j = i then some D' else N j) f := by
  obtain ⟨D, hD⟩ := Option.isSome_iff_exists.1 hs
  obtain ⟨M, hm, _⟩ := h.el i hi D hD
  have hq := Kq.of_map hm hg
  refine ⟨hq.cell h.c0, hq.cell h.c1, ?_, fun j hj E hE => ?_, fun j hj hjs => ?_, fun j k hj hk hjs hks e => ?_⟩
  · have e : nbM (fun j => if j = i then some D' else N j) f = nbM N f := by
      funext z
      unfold nbM
      split
      · by_cases e : z.toNat = i
        · simp [e, hD]
        · simp only [if_neg e]
      · rfl
    rw [e]
    exact h.nb.kept hg (fun e => h.ne i hi hs (by injection e))
  · by_cases e : j = i
    · subst e
      simp only [if_true, Option.some.injEq] at hE
      subst hE
      exact hin
    · simp only [if_neg e] at hE
      exact (h.el j hj E hE).kept hq hg (fun e2 => e (h.inj j i hj hi (by rw [hE]; rfl) hs e2))
  · by_cases e : j = i
    · subst e; exact h.ne j hj hs
    · simp only [if_neg e] at hjs; exact h.ne j hj hjs
  · refine h.inj j k hj hk ?_ ?_ e
    · by_cases e : j = i
      · subst e; exact hs
      · simpa only [if_neg e] using hjs
    · by_cases e : k = i
      · subst e; exact hs
      · simpa only [if_neg e] using hks

theorem pdT : MapT 149 152 hdZ := ⟨Tryz.underlying149, Tryz.zeroValue152⟩
theorem nbT : MapT 125 149 (.map none) := ⟨Tryz.underlying125, by intro w; kernel_rfl⟩

end Go.Proofs.YtbkpholkjgjicaaGreat.Fd

namespace Go.Proofs.YtbkpholkjgjicaaGreat
open Go.Shelf
def Tryz.lkeys_ren : Go.Shelf.Ren := ⟨fun | 7 => 108 | 10 => 125 | n => n, fun | 23 => 122 | 26 => 3 | 3 => 156 | 28 => 196 | 0 => 0 | 27 => 195 | 33 => 43 | 4 => 4 | n => n, fun | n => n⟩
theorem Tryz.lkeys : Go.Proofs.SlLaysZI.n7 Tryz.prog Tryz.lkeys_ren := {
  mixed := by kernel_rfl
  f7 := ⟨Tryz.f108.name, by decide, Tryz.func108.trans (congrArg some (by kernel_rfl))⟩
  f10 := ⟨Tryz.f125.name, by decide, Tryz.func125.trans (congrArg some (by kernel_rfl))⟩
  t0 := Tryz.underlying0
  a0 := Tryz.isAgg0
  z0 := Tryz.sizeOf0
  v0 := Tryz.zeroValue0
  t4 := Tryz.underlying4
  a4 := Tryz.isAgg4
  z4 := Tryz.sizeOf4
  v4 := Tryz.zeroValue4
  t23 := Tryz.underlying122
  a23 := Tryz.isAgg122
  z23 := Tryz.sizeOf122
  v23 := Tryz.zeroValue122
  t26 := Tryz.underlying3
  a26 := Tryz.isAgg3
  z26 := Tryz.sizeOf3
  v26 := Tryz.zeroValue3
  t27 := Tryz.underlying195
  a27 := Tryz.isAgg195
  z27 := Tryz.sizeOf195
  v27 := Tryz.zeroValue195
  t28 := Tryz.underlying196
  a28 := Tryz.isAgg196
  z28 := Tryz.sizeOf196
  v28 := Tryz.zeroValue196
  t33 := Tryz.underlying43
  a33 := Tryz.isAgg43
  z33 := Tryz.sizeOf43
  v33 := Tryz.zeroValue43 }
def Tryz.lkeysp_ren : Go.Shelf.Ren := ⟨fun | 7 => 114 | 10 => 129 | n => n, fun | 23 => 149 | 26 => 3 | 3 => 152 | 28 => 196 | 0 => 0 | 27 => 195 | 33 => 43 | 4 => 4 | n => n, fun | n => n⟩
theorem Tryz.lkeysp : Go.Proofs.SlLaysZI.n7 Tryz.prog Tryz.lkeysp_ren := {
  mixed := by kernel_rfl
  f7 := ⟨Tryz.f114.name, by decide, Tryz.func114.trans (congrArg some (by kernel_rfl))⟩
  f10 := ⟨Tryz.f129.name, by decide, Tryz.func129.trans (congrArg some (by kernel_rfl))⟩
  t0 := Tryz.underlying0
  a0 := Tryz.isAgg0
  z0 := Tryz.sizeOf0
  v0 := Tryz.zeroValue0
  t4 := Tryz.underlying4
  a4 := Tryz.isAgg4
  z4 := Tryz.sizeOf4
  v4 := Tryz.zeroValue4
  t23 := Tryz.underlying149
  a23 := Tryz.isAgg149
  z23 := Tryz.sizeOf149
  v23 := Tryz.zeroValue149
  t26 := Tryz.underlying3
  a26 := Tryz.isAgg3
  z26 := Tryz.sizeOf3
  v26 := Tryz.zeroValue3
  t27 := Tryz.underlying195
  a27 := Tryz.isAgg195
  z27 := Tryz.sizeOf195
  v27 := Tryz.zeroValue195
  t28 := Tryz.underlying196
  a28 := Tryz.isAgg196
  z28 := Tryz.sizeOf196
  v28 := Tryz.zeroValue196
  t33 := Tryz.underlying43
  a33 := Tryz.isAgg43
  z33 := Tryz.sizeOf43
  v33 := Tryz.zeroValue43 }
def Tryz.lkeysn_ren : Go.Shelf.Ren := ⟨fun | 7 => 110 | 10 => 126 | n => n, fun | 23 => 125 | 26 => 3 | 3 => 149 | 28 => 196 | 0 => 0 | 27 => 195 | 33 => 43 | 4 => 4 | n => n, fun | n => n⟩
theorem Tryz.lkeysn : Go.Proofs.SlLaysZI.n7 Tryz.prog Tryz.lkeysn_ren := {
  mixed := by kernel_rfl
  f7 := ⟨Tryz.f110.name, by decide, Tryz.func110.trans (congrArg some (by kernel_rfl))⟩
  f10 := ⟨Tryz.f126.name, by decide, Tryz.func126.trans (congrArg some (by kernel_rfl))⟩
  t0 := Tryz.underlying0
  a0 := Tryz.isAgg0
  z0 := Tryz.sizeOf0
  v0 := Tryz.zeroValue0
  t4 := Tryz.underlying4
  a4 := Tryz.isAgg4
  z4 := Tryz.sizeOf4
  v4 := Tryz.zeroValue4
  t23 := Tryz.underlying125
  a23 := Tryz.isAgg125
  z23 := Tryz.sizeOf125
  v23 := Tryz.zeroValue125
  t26 := Tryz.underlying3
  a26 := Tryz.isAgg3
  z26 := Tryz.sizeOf3
  v26 := Tryz.zeroValue3
  t27 := Tryz.underlying195
  a27 := Tryz.isAgg195
  z27 := Tryz.sizeOf195
  v27 := Tryz.zeroValue195
  t28 := Tryz.underlying196
  a28 := Tryz.isAgg196
  z28 := Tryz.sizeOf196
  v28 := Tryz.zeroValue196
  t33 := Tryz.underlying43
  a33 := Tryz.isAgg43
  z33 := Tryz.sizeOf43
  v33 := Tryz.zeroValue43 }
def Tryz.lsorted_ren : Go.Shelf.Ren := ⟨fun | 6 => 107 | 8 => 123 | 9 => 124 | 11 => 131 | 13 => 133 | 12 => 132 | 23 => 143 | 24 => 144 | 14 => 134 | 15 => 135 | 16 => 136 | 17 => 137 | 18 => 138 | 19 => 139 | 20 => 140 | 21 => 141 | 22 => 142 | 25 => 145 | 26 => 146 | 27 => 147 | 28 => 148 | 29 => 149 | 30 => 127 | 31 => 150 | n => n, fun | 26 => 3 | 28 => 196 | 24 => 74 | 0 => 0 | 3 => 3 | 37 => 177 | 48 => 98 | 50 => 113 | 4 => 4 | 40 => 217 | 39 => 216 | 45 => 157 | 5 => 5 | 9 => 9 | 51 => 225 | 55 => 229 | 57 => 231 | 58 => 184 | 33 => 43 | n => n, fun | n => n⟩
theorem Tryz.lsorted : Go.Proofs.SlLaysZI.n6 Tryz.prog Tryz.lsorted_ren := {
  mixed := by kernel_rfl
  f6 := ⟨Tryz.f107.name, by decide, Tryz.func107.trans (congrArg some (by kernel_rfl))⟩
  f8 := ⟨Tryz.f123.name, by decide, Tryz.func123.trans (congrArg some (by kernel_rfl))⟩
  f11 := ⟨Tryz.f131.name, by decide, Tryz.func131.trans (congrArg some (by kernel_rfl))⟩
  t0 := Tryz.underlying0
  a0 := Tryz.isAgg0
  z0 := Tryz.sizeOf0
  v0 := Tryz.zeroValue0
  t24 := Tryz.underlying74
  a24 := Tryz.isAgg74
  z24 := Tryz.sizeOf74
  v24 := Tryz.zeroValue74
  t26 := Tryz.underlying3
  a26 := Tryz.isAgg3
  z26 := Tryz.sizeOf3
  v26 := Tryz.zeroValue3
  t28 := Tryz.underlying196
  a28 := Tryz.isAgg196
  z28 := Tryz.sizeOf196
  v28 := Tryz.zeroValue196
  i26 := by kernel_rfl }
def Tryz.lsort_ren : Go.Shelf.Ren := ⟨fun | 5 => 124 | 8 => 133 | 7 => 132 | 19 => 143 | 20 => 144 | 10 => 134 | 11 => 135 | 12 => 136 | 13 => 137 | 14 => 138 | 15 => 139 | 16 => 140 | 17 => 141 | 18 => 142 | 30 => 145 | 31 => 146 | 32 => 147 | 33 => 148 | 34 => 149 | 35 => 127 | 40 => 150 | n => n, fun | 23 => 74 | 25 => 3 | 3 => 3 | 32 => 177 | 22 => 74 | 0 => 0 | 44 => 98 | 46 => 113 | 4 => 4 | 36 => 217 | 35 => 216 | 41 => 157 | 5 => 5 | 9 => 9 | 53 => 225 | 57 => 229 | 63 => 231 | 64 => 184 | n => n, fun | n => n⟩
theorem Tryz.lsort : Go.Proofs.SlLaysM.n5 Tryz.prog Tryz.lsort_ren := {
  mixed := by kernel_rfl
  f5 := ⟨Tryz.f124.name, by decide, Tryz.func124.trans (congrArg some (by kernel_rfl))⟩
  f7 := ⟨Tryz.f132.name, by decide, Tryz.func132.trans (congrArg some (by kernel_rfl))⟩
  f8 := Tryz.func133.trans (congrArg some (by kernel_rfl))
  f10 := ⟨Tryz.f134.name, by decide, Tryz.func134.trans (congrArg some (by kernel_rfl))⟩
  f11 := ⟨Tryz.f135.name, by decide, Tryz.func135.trans (congrArg some (by kernel_rfl))⟩
  f12 := ⟨Tryz.f136.name, by decide, Tryz.func136.trans (congrArg some (by kernel_rfl))⟩
  f13 := ⟨Tryz.f137.name, by decide, Tryz.func137.trans (congrArg some (by kernel_rfl))⟩
  f14 := ⟨Tryz.f138.name, by decide, Tryz.func138.trans (congrArg some (by kernel_rfl))⟩
  f15 := ⟨Tryz.f139.name, by decide, Tryz.func139.trans (congrArg some (by kernel_rfl))⟩
  f16 := ⟨Tryz.f140.name, by decide, Tryz.func140.trans (congrArg some (by kernel_rfl))⟩
  f17 := ⟨Tryz.f141.name, by decide, Tryz.func141.trans (congrArg some (by kernel_rfl))⟩
  f18 := ⟨Tryz.f142.name, by decide, Tryz.func142.trans (congrArg some (by kernel_rfl))⟩
  f19 := Tryz.func143.trans (congrArg some (by kernel_rfl))
  f20 := Tryz.func144.trans (congrArg some (by kernel_rfl))
  f30 := ⟨Tryz.f145.name, by decide, Tryz.func145.trans (congrArg some (by kernel_rfl))⟩
  f31 := Tryz.func146.trans (congrArg some (by kernel_rfl))
  f32 := Tryz.func147.trans (congrArg some (by kernel_rfl))
  f33 := ⟨Tryz.f148.name, by decide, Tryz.func148.trans (congrArg some (by kernel_rfl))⟩
  f34 := ⟨Tryz.f149.name, by decide, Tryz.func149.trans (congrArg some (by kernel_rfl))⟩
  f35 := ⟨Tryz.f127.name, by decide, Tryz.func127.trans (congrArg some (by kernel_rfl))⟩
  f40 := ⟨Tryz.f150.name, by decide, Tryz.func150.trans (congrArg some (by kernel_rfl))⟩
  t0 := Tryz.underlying0
  a0 := Tryz.isAgg0
  z0 := Tryz.sizeOf0
  v0 := Tryz.zeroValue0
  t3 := Tryz.underlying3
  a3 := Tryz.isAgg3
  z3 := Tryz.sizeOf3
  v3 := Tryz.zeroValue3
  t4 := Tryz.underlying4
  a4 := Tryz.isAgg4
  z4 := Tryz.sizeOf4
  v4 := Tryz.zeroValue4
  t5 := Tryz.underlying5
  a5 := Tryz.isAgg5
  z5 := Tryz.sizeOf5
  v5 := Tryz.zeroValue5
  t9 := Tryz.underlying9
  a9 := Tryz.isAgg9
  z9 := Tryz.sizeOf9
  v9 := Tryz.zeroValue9
  t22 := Tryz.underlying74
  a22 := Tryz.isAgg74
  z22 := Tryz.sizeOf74
  v22 := Tryz.zeroValue74
  t23 := Tryz.underlying74
  a23 := Tryz.isAgg74
  z23 := Tryz.sizeOf74
  v23 := Tryz.zeroValue74
  t25 := Tryz.underlying3
  a25 := Tryz.isAgg3
  z25 := Tryz.sizeOf3
  v25 := Tryz.zeroValue3
  t32 := Tryz.underlying177
  a32 := Tryz.isAgg177
  z32 := Tryz.sizeOf177
  v32 := Tryz.zeroValue177
  t35 := Tryz.underlying216
  a35 := Tryz.isAgg216
  z35 := Tryz.sizeOf216
  v35 := Tryz.zeroValue216
  t36 := Tryz.underlying217
  a36 := Tryz.isAgg217
  z36 := Tryz.sizeOf217
  v36 := Tryz.zeroValue217
  t41 := Tryz.underlying157
  a41 := Tryz.isAgg157
  z41 := Tryz.sizeOf157
  v41 := Tryz.zeroValue157
  t44 := Tryz.underlying98
  a44 := Tryz.isAgg98
  z44 := Tryz.sizeOf98
  v44 := Tryz.zeroValue98
  t46 := Tryz.underlying113
  a46 := Tryz.isAgg113
  z46 := Tryz.sizeOf113
  v46 := Tryz.zeroValue113
  t53 := Tryz.underlying225
  a53 := Tryz.isAgg225
  z53 := Tryz.sizeOf225
  v53 := Tryz.zeroValue225
  t57 := Tryz.underlying229
  a57 := Tryz.isAgg229
  z57 := Tryz.sizeOf229
  v57 := Tryz.zeroValue229
  t63 := Tryz.underlying231
  a63 := Tryz.isAgg231
  z63 := Tryz.sizeOf231
  v63 := Tryz.zeroValue231
  t64 := Tryz.underlying184
  a64 := Tryz.isAgg184
  z64 := Tryz.sizeOf184
  v64 := Tryz.zeroValue184 }
end Go.Proofs.YtbkpholkjgjicaaGreat

namespace Go.Proofs.YtbkpholkjgjicaaGreat.Fd
set_option linter.unusedVariables false
open Go.RowKit Go.Maps Go.Sort Go.Shelf

theorem sorts_in (m : Nat) : AnyZI.SortsIn Tryz.prog Tryz.lsorted_ren Fence.wide m :=
  ⟨fun blk off cap ss W hH hblk hsz => callsIn_wide.2 (AnyM.slices_Sort_int Tryz.lsort blk off cap ss W hH hblk hsz),
   fun p cap W => callsIn_wide.2 (AnyM.slices_Sort_int_none Tryz.lsort p cap W)⟩
/-- What slices.Sorted of a map's keys gives. -/
def SortedPost (w : World) (B : Nat) (M : Int → Option Value) (e : Ending) (w' : World) : Prop :=
  ∃ A c, e = .returned (.slice A (keysL B M).length c) ∧ w'.ownsRow w.heap.size 3 1 (.slice A (keysL B M).length c) (keysL B M).length ((keysL B M).map encZ) ∧ Below w.heap.size w w'
theorem sorted_post {w w' : World} {B : Nat} {M : Int → Option Value} {D : DataW Value} {b nn : Nat} (hown : w.ownsMap Tryz.prog 3 hdR b nn D) (hd : DatIs B D M) {v : Value} {ss : List Int} {e : Ending} (he : e = .returned v) (hp : ss.Perm (intKeys D)) (hrow : w'.ownsRow w.heap.size 3 1 v ss.length ((ss.mergeSort (fun x y => decide (x ≤ y))).map encZ)) (hb : Below w.heap.size w w') : SortedPost w B M e w' := by
  rw [sort_keys hown hd hp] at hrow
  have hl : ss.length = (keysL B M).length := by rw [← sort_keys hown hd hp, List.length_mergeSort]
  rw [hl] at hrow
  obtain ⟨A, c, rfl, _⟩ := own_rd hrow
  exact ⟨A, c, he, hrow, hb⟩

theorem keysP_any (mb : Option Nat) (W : World) : Calls Tryz.prog 114 #[.map mb] W fun e w' => e = .returned (.func (.func 129) #[] #[.pointer (some ⟨W.heap.size, 0, none⟩)]) ∧ w' = W.alloc (.cells #[.map mb] 149) :=
  (callsIn_wide (n := 5)).1 (AnyZI.keys_in Tryz.lkeysp Fence.wide 5 trivial rfl mb W)
theorem keysN_any (mb : Option Nat) (W : World) : Calls Tryz.prog 110 #[.map mb] W fun e w' => e = .returned (.func (.func 126) #[] #[.pointer (some ⟨W.heap.size, 0, none⟩)]) ∧ w' = W.alloc (.cells #[.map mb] 125) :=
  (callsIn_wide (n := 5)).1 (AnyZI.keys_in Tryz.lkeysn Fence.wide 5 trivial rfl mb W)

theorem sortedP_any (w : World) (b B : Nat) (M : Int → Option Value) (h : MapIs B w b M) (hB : B ≤ 1000) :
    Calls Tryz.prog 107 #[.func (.func 129) #[] #[.pointer (some ⟨w.heap.size, 0, none⟩)]] (w.alloc (.cells #[.map (some b)] 149)) (SortedPost (w.alloc (.cells #[.map (some b)] 149)) B M) := by
  have h9 := h.below (below_new' w (.cells #[.map (some b)] 149))
  obtain ⟨D0, hown, hd⟩ := h9
  have hs := size_keys hown hd
  have hmax : Maps.size D0 ≤ maxLen := by unfold maxLen; omega
  have hbytes : Maps.size D0 * 8 ≤ 140737488355328 := by omega
  have hseq : SeqGives Fence.wide 2 Tryz.prog 129 #[.pointer (some ⟨w.heap.size, 0, none⟩)] encZ (fun ss => ss.Perm (intKeys D0)) (Maps.size D0) (w.alloc (.cells #[.map (some b)] 149)) :=
    AnyZI.keys_gives (ρ := Tryz.lkeysp_ren) { Tryz.lkeysp with } Fence.wide _ trivial rfl (by omega) w.heap.size b B D0 _ (by simp) (by simp) hown
  have cS := AnyZI.sorted_in Tryz.lsorted Fence.wide 5 trivial trivial trivial trivial rfl (by omega) (sorts_in _) (enters_of Tryz.func124 (by kernel_rfl) rfl) 129 #[.pointer (some ⟨w.heap.size, 0, none⟩)] trivial (enters_of Tryz.func129 (by kernel_rfl) rfl) _ _ hmax hbytes _ hseq
  change CallsIn _ _ Tryz.prog 107 _ _ _ at cS
  refine ((callsIn_wide (n := 5)).1 cS).mono ?_
  rintro e w' ⟨v, ss, he, hp, hrow, hnil, hb⟩
  exact sorted_post hown hd he hp hrow hb
theorem sortedN_any (w : World) (b B : Nat) (M : Int → Option Value) (h : MapIs B w b M) (hB : B ≤ 1000) :
    Calls Tryz.prog 107 #[.func (.func 126) #[] #[.pointer (some ⟨w.heap.size, 0, none⟩)]] (w.alloc (.cells #[.map (some b)] 125)) (SortedPost (w.alloc (.cells #[.map (some b)] 125)) B M) := by
  have h9 := h.below (below_new' w (.cells #[.map (some b)] 125))
  obtain ⟨D0, hown, hd⟩ := h9
  have hs := size_keys hown hd
  have hmax : Maps.size D0 ≤ maxLen := by unfold maxLen; omega
  have hbytes : Maps.size D0 * 8 ≤ 140737488355328 := by omega
  have hseq : SeqGives Fence.wide 2 Tryz.prog 126 #[.pointer (some ⟨w.heap.size, 0, none⟩)] encZ (fun ss => ss.Perm (intKeys D0)) (Maps.size D0) (w.alloc (.cells #[.map (some b)] 125)) :=
    AnyZI.keys_gives (ρ := Tryz.lkeysn_ren) { Tryz.lkeysn with } Fence.wide _ trivial rfl (by omega) w.heap.size b B D0 _ (by simp) (by simp) hown
  have cS := AnyZI.sorted_in Tryz.lsorted Fence.wide 5 trivial trivial trivial trivial rfl (by omega) (sorts_in _) (enters_of Tryz.func124 (by kernel_rfl) rfl) 126 #[.pointer (some ⟨w.heap.size, 0, none⟩)] trivial (enters_of Tryz.func126 (by kernel_rfl) rfl) _ _ hmax hbytes _ hseq
  change CallsIn _ _ Tryz.prog 107 _ _ _ at cS
  refine ((callsIn_wide (n := 5)).1 cS).mono ?_
  rintro e w' ⟨v, ss, he, hp, hrow, hnil, hb⟩
  exact sorted_post hown hd he hp hrow hb

end Go.Proofs.YtbkpholkjgjicaaGreat.Fd

namespace Go.Proofs.YtbkpholkjgjicaaGreat.Fd
set_option linter.unusedVariables false
open Go.RowKit Go.Maps Go.Sort

theorem nbM_none (f : Nat → Nat) : nbM (fun _ => none) f = fun _ => none := by
  funext z; unfold nbM; split <;> rfl
set_option maxRecDepth 100000 in
set_option maxHeartbeats 1600000 in
theorem fnew_any (w : World) (iv : Int) (h1 : 1 ≤ iv) (h2 : iv ≤ 65536) : Calls Tryz.prog 24 #[.int .i64 iv] w fun e w' => e = .returned (.tuple #[.pointer (some ⟨w.heap.size + 1, 0, none⟩), .int .i64 0]) ∧ FlAt w' (w.heap.size + 1) w.heap.size iv (fun _ => none) (fun _ => 0) ∧ Below w.heap.size w w' := by
  have hfin : FlAt ((w.alloc (.map #[] 0)).alloc (.cells #[.int .i64 iv, .map (some w.heap.size)] 127)) (w.heap.size + 1) w.heap.size iv (fun _ => none) (fun _ => 0) := by
    have hb := below_new' (w.alloc (.map #[] 0)) (.cells #[.int .i64 iv, .map (some w.heap.size)] 127)
    have hbx := Box.new' (w.alloc (.map #[] 0)) #[.int .i64 iv, .map (some w.heap.size)] 127 (w.heap.size + 1) _ (by simp) rfl
    exact ⟨hbx.c 0 rfl, hbx.c 1 rfl, by rw [nbM_none]; exact (MapIs.made 256 w).below hb, fun i _ D h => (nomatch h), fun i _ h => by simp at h, fun i j _ _ h => by simp at h⟩
  have hbl : Below w.heap.size w ((w.alloc (.map #[] 0)).alloc (.cells #[.int .i64 iv, .map (some w.heap.size)] 127)) := (below_new' w _).trans ((below_new' _ _).mono (by simp))
  have hmm := @run_makeMap Tryz.prog
  have e1 : decide (iv < 1) = false := by simp; omega
  have e2 : decide (65536 < iv) = false := by simp; omega
  replace hfin := Lib.hid hfin
  go_enter Tryz.func24, Tryz.ntmps24
  go_wp2_with fail
  go_ret2
  exact ⟨rfl, hfin.out, hbl⟩
set_option maxHeartbeats 1600000 in
theorem fnew_no (w : World) (iv : Int) (h : iv < 1 ∨ 65536 < iv) : Calls Tryz.prog 24 #[.int .i64 iv] w fun e w' => e = .returned (.tuple #[.pointer none, .int .i64 1]) ∧ w = w' := by
  rcases h with h | h
  · have e1 : decide (iv < 1) = true := by simp; omega
    go_enter Tryz.func24, Tryz.ntmps24
    go_wp2_with fail
    go_ret2
    exact ⟨rfl, rfl⟩
  · have e1 : decide (iv < 1) = false := by simp; omega
    have e2 : decide (65536 < iv) = true := by simp; omega
    go_enter Tryz.func24, Tryz.ntmps24
    go_wp2_with fail
    go_ret2
    exact ⟨rfl, rfl⟩

/-- The neighbours in their order. -/
def lks (N : Fn) : List Int := ((List.range 256).map fun (i : Nat) => (i : Int)).filter fun i => (N i.toNat).isSome
theorem keysL_nb (N : Fn) (f : Nat → Nat) : keysL 256 (nbM N f) = lks N := by
  unfold keysL lks
  refine List.filter_congr fun i hi => ?_
  obtain ⟨k, hk, rfl⟩ := List.mem_map.1 hi
  rw [nbM_at (List.mem_range.1 hk), Option.isSome_map, Int.toNat_natCast]
theorem lks_mem {N : Fn} (i : Int) : i ∈ lks N ↔ (0 ≤ i ∧ i < 256) ∧ (N i.toNat).isSome = true := by
  unfold lks
  rw [List.mem_filter, List.mem_map]
  constructor
  · rintro ⟨⟨k, hk, rfl⟩, h⟩
    exact ⟨⟨by omega, by have := List.mem_range.1 hk; omega⟩, h⟩
  · rintro ⟨⟨h0, h1⟩, h⟩
    exact ⟨⟨i.toNat, List.mem_range.2 (by omega), Int.toNat_of_nonneg h0⟩, h⟩
theorem lks_len (N : Fn) : (lks N).length ≤ 256 := by
  unfold lks
  refine Nat.le_trans (List.length_filter_le _ _) ?_
  simp
def IntsPost (w : World) (l : List Int) (e : Ending) (w' : World) : Prop :=
  ∃ A c, e = .returned (.slice A l.length c) ∧ w'.ownsRow w.heap.size 3 1 (.slice A l.length c) l.length (l.map encZ) ∧ Below w.heap.size w w'
set_option maxRecDepth 100000 in
set_option maxHeartbeats 1600000 in
theorem flinks_any (w : World) (g b : Nat) (iv : Int) (N : Fn) (f : Nat → Nat) (h : FlAt w g b iv N f) : Calls Tryz.prog 83 #[.pointer (some ⟨g, 0, none⟩)] w (IntsPost w (lks N)) := by
  have c1 := h.c1
  have SO := sortedN_any w b 256 _ h.nb (by omega)
  rw [show SortedPost (w.alloc (.cells #[.map (some b)] 125)) 256 (nbM N f) = IntsPost (w.alloc (.cells #[.map (some b)] 125)) (lks N) by unfold SortedPost IntsPost; rw [keysL_nb]] at SO
  have hfin : Hid (∀ e w', IntsPost (w.alloc (.cells #[.map (some b)] 125)) (lks N) e w' → IntsPost w (lks N) e w') := fun e w' hp => by
    obtain ⟨A, c, he, ho, hb⟩ := hp
    exact ⟨A, c, he, own_mono ho (by simp), (below_new' w _).trans (hb.mono (by simp))⟩
  replace SO := Lib.hid SO
  clear h
  go_enter Tryz.func83, Tryz.ntmps83
  go_wp2_with fail
  (with_reducible refine (keysN_any _ _).mono ?_)
  rintro e w1 ⟨rfl, rfl⟩
  go_wp2_with fail
  (with_reducible refine SO.out.mono ?_)
  rintro e w2 hp
  have hp2 := hfin.out _ _ hp
  obtain ⟨A, c, rfl, hp3⟩ := hp2
  go_wp2_with fail
  go_ret
  exact ⟨A, c, rfl, hp3⟩

/-! ### A nil pointer -/
set_option maxHeartbeats 800000 in
theorem flinks_nil (w : World) : Calls Tryz.prog 83 #[.pointer none] w fun e w' => e = .returned (.slice none 0 0) ∧ w = w' := by
  go_enter Tryz.func83, Tryz.ntmps83
  go_wp2_with fail
  go_ret
  exact ⟨rfl, rfl⟩
set_option maxHeartbeats 800000 in
theorem fup_nil (w : World) (z : Int) (u : Value) : Calls Tryz.prog 80 #[.pointer none, .int .i64 z, u] w fun e w' => e = .returned (.int .i64 7) ∧ w = w' := by
  go_enter Tryz.func80, Tryz.ntmps80
  go_wp2_with fail
  go_ret
  exact ⟨rfl, rfl⟩
set_option maxHeartbeats 800000 in
theorem fdown_nil (w : World) (z : Int) : Calls Tryz.prog 81 #[.pointer none, .int .i64 z] w fun e w' => e = .returned (.int .i64 7) ∧ w = w' := by
  go_enter Tryz.func81, Tryz.ntmps81
  go_wp2_with fail
  go_ret
  exact ⟨rfl, rfl⟩
set_option maxHeartbeats 1600000 in
theorem foffer_nil (w : World) (z : Int) (v : Value) (x : La) (h : LaAt w v x) : Calls Tryz.prog 72 #[.pointer none, .int .i64 z, v] w fun e w' => e = .returned (.int .i64 7) ∧ Below w.heap.size w w' := by
  obtain ⟨A, c, B, d, rfl, _⟩ := h
  have hbb := below_new' w (laB x.o x.s x.a x.ov A x.adj.length c B x.pre.length d)
  go_enter Tryz.func72, Tryz.ntmps72
  go_wp2_with fail
  go_ret
  exact ⟨rfl, hbb⟩
set_option maxHeartbeats 1600000 in
theorem fspread_nil (w : World) (z : Int) (v : Value) (x : La) (h : LaAt w v x) : Calls Tryz.prog 47 #[.pointer none, v, .int .i64 z] w fun e w' => e = .returned (.int .i64 7) ∧ Below w.heap.size w w' := by
  obtain ⟨A, c, B, d, rfl, _⟩ := h
  have hbb := below_new' w (laB x.o x.s x.a x.ov A x.adj.length c B x.pre.length d)
  go_enter Tryz.func47, Tryz.ntmps47
  go_wp2_with fail
  go_ret
  exact ⟨rfl, hbb⟩
set_option maxHeartbeats 1600000 in
theorem fack_nil (w : World) (z : Int) (v : Value) (x : La) (h : LaAt w v x) : Calls Tryz.prog 35 #[.pointer none, .int .i64 z, v] w fun e w' => e = .returned (.tuple #[.bool false, .int .i64 7]) ∧ Below w.heap.size w w' := by
  obtain ⟨A, c, B, d, rfl, _⟩ := h
  have hbb := below_new' w (laB x.o x.s x.a x.ov A x.adj.length c B x.pre.length d)
  go_enter Tryz.func35, Tryz.ntmps35
  go_wp2_with fail
  go_ret2
  exact ⟨rfl, hbb⟩
set_option maxHeartbeats 1600000 in
theorem fpoll_nil (w : World) : Calls Tryz.prog 87 #[.pointer none] w fun e w' => e = .returned (.slice none 0 0) ∧ w = w' := by
  go_enter Tryz.func87, Tryz.ntmps87
  go_wp2_with fail
  (with_reducible refine (flinks_nil _).mono ?_)
  rintro e w1 ⟨rfl, rfl⟩
  go_wp2_with fail
  go_loop [3, 13] (fun v3 v13 => v3 = .slice none 0 0 ∧ v13 = .int .i64 0) (fun _ v13 => 0)
  case atStart => exact ⟨rfl, rfl⟩
  case round =>
    obtain ⟨rfl, rfl⟩ := hrel
    go_wp2_with fail
    go_ret
    exact ⟨rfl, rfl⟩
set_option maxHeartbeats 1600000 in
theorem ftick_nil (w : World) (n : Int) : Calls Tryz.prog 50 #[.pointer none, .int .i64 n] w fun e w' => e = .returned (.tuple #[]) ∧ w = w' := by
  by_cases h0 : n ≤ 0
  · go_enter Tryz.func50, Tryz.ntmps50
    go_wp2_with fail
    exact bodyPost_ret (v := .tuple #[]) (by simp [results, Tryz.results50, go_sem]) rfl ⟨rfl, rfl⟩
  · go_enter Tryz.func50, Tryz.ntmps50
    go_wp2_with fail
    (with_reducible refine (flinks_nil _).mono ?_)
    rintro e w1 ⟨rfl, rfl⟩
    go_wp2_with fail
    go_loop [14] (fun v14 => v14 = .int .i64 0) (fun v14 => 0)
    case atStart => rfl
    case round =>
      obtain rfl := hrel
      go_wp2_with fail
      exact bodyPost_end (v := .tuple #[]) (by simp [results, Tryz.results50, go_sem]) rfl ⟨rfl, rfl⟩
  
end Go.Proofs.YtbkpholkjgjicaaGreat.Fd

namespace Go.Proofs.YtbkpholkjgjicaaGreat
set_option linter.unusedVariables false
open Go.RowKit Go.Maps Go.Sort Go.Shelf

theorem sorts_in (m : Nat) : AnyZI.SortsIn Tryz.prog Tryz.lsorted_ren Fence.wide m :=
  ⟨fun blk off cap ss W hH hblk hsz => callsIn_wide.2 (AnyM.slices_Sort_int Tryz.lsort blk off cap ss W hH hblk hsz),
   fun p cap W => callsIn_wide.2 (AnyM.slices_Sort_int_none Tryz.lsort p cap W)⟩

set_option maxRecDepth 100000 in
set_option maxHeartbeats 1000000 in
/-- The keys of a map, sorted. -/
theorem origins_any {H : Type} (g b nn : Nat) (D0 : DataW H) (R : Value → Option (DataW H × List MemPlace)) (w : World) (hc : w.cell? ⟨g, 0, none⟩ = some (.map (some b))) (hown : w.ownsMap Tryz.prog 3 R b nn D0) (hmax : Maps.size D0 ≤ maxLen) (hbytes : Maps.size D0 * 8 ≤ 140737488355328) :
    Calls Tryz.prog 78 #[.pointer (some ⟨g, 0, none⟩)] w fun e w' => ∃ (v : Value) (ss : List Int), e = .returned v ∧ ss.Perm (intKeys D0) ∧
      w'.ownsRow w.heap.size 3 1 v ss.length ((ss.mergeSort (fun x y => decide (x ≤ y))).map encZ) ∧ (v = .slice none 0 0 ↔ ss = []) ∧ Below w.heap.size w w' := by
  refine (callsIn_wide (n := 6)).1 ?_
  have hbl := hown.lt
  have hseq : SeqGives Fence.wide 2 Tryz.prog 125 #[.pointer (some ⟨w.heap.size, 0, none⟩)] encZ (fun ss => ss.Perm (intKeys D0)) (Maps.size D0) (w.alloc (.cells #[.map (some b)] 122)) :=
    AnyZI.keys_gives (ρ := Tryz.lkeys_ren) { Tryz.lkeys with } Fence.wide _ trivial rfl (by omega) w.heap.size b nn D0 _ (by simp) (by simp) (by
      obtain ⟨es, clock, hb, Ft, hs, hD⟩ := hown
      exact ⟨es, clock, (Below.heap_alloc _ _ b hbl).trans hb, Ft, hs, hD⟩)
  have cK : ∀ mb W, CallsIn Fence.wide 5 Tryz.prog 108 #[.map mb] W fun e w' => e = .returned (.func (.func 125) #[] #[.pointer (some ⟨W.heap.size, 0, none⟩)]) ∧ w' = W.alloc (.cells #[.map mb] 122) := fun mb W => AnyZI.keys_in Tryz.lkeys Fence.wide 5 trivial rfl mb W
  have cS := AnyZI.sorted_in Tryz.lsorted Fence.wide 5 trivial trivial trivial trivial rfl (by omega) (sorts_in _) (enters_of Tryz.func124 (by kernel_rfl) rfl) 125 #[.pointer (some ⟨w.heap.size, 0, none⟩)] trivial (enters_of Tryz.func125 (by kernel_rfl) rfl) _ _ hmax hbytes _ hseq
  change CallsIn _ _ Tryz.prog 107 _ _ _ at cS
  have hfK : Fence.wide.fn 108 := trivial
  have hfS : Fence.wide.fn 107 := trivial
  clear hown hseq
  refine callsIn_of_wp Tryz.func78 rfl trivial ?_ rfl
  simp only [Tryz.ntmps78, List.size_toArray, List.length_cons, List.length_nil, Nat.reduceAdd, Nat.reduceSub, Array.replicate_succ, Array.replicate_zero, List.push_toArray, List.append_toArray, List.nil_append, List.cons_append]
  gi_wp2_with (first
    | (gi_at_call 108; refine (cK _ _).mono ?_; rintro e w' ⟨rfl, rfl⟩)
    | (gi_at_call 107; refine cS.mono ?_; rintro e w' ⟨v, ss, rfl, hS, hrow, hnil, hb⟩))
  go_ret
  exact ⟨v, ss, rfl, hS, ownsRow_base_a hrow (by simp), hnil, ((Below.refl _ w).alloc (Nat.le_refl _) _).trans (hb.mono (by simp))⟩

end Go.Proofs.YtbkpholkjgjicaaGreat

namespace Go.Proofs.YtbkpholkjgjicaaGreat
set_option linter.unusedVariables false
open Go.RowKit Go.Maps Go.Sort

/-- An element reads as itself. -/
def hdR (v : Value) : Option (DataW Value × List MemPlace) := some (.held v, [])
theorem keyI : Keyed Tryz.prog 3 := int_keyed Tryz.underlying3
theorem wf64 {i : Int} (h0 : 0 ≤ i) (h1 : i ≤ 1000) : (Lit.int .i64 i).wf = true := WalkArith.wf_i64 (by omega)
theorem keyOfI {i : Int} (h : (Lit.int .i64 i).wf = true) : keyOf Tryz.prog 3 (.int .i64 i) = some (.int .i64 i) := keyOf_int_mk Tryz.underlying3 h
abbrev hdZ : Value := .agg #[.int .i64 0, .int .i64 0, .int .i64 0, .bool false, .slice none 0 0, .slice none 0 0, .int .i64 0]

/-- The datum of such a map. -/
structure DatIs (D : DataW Value) (M : Int → Option Value) : Prop where
  at_ : ∀ i z, D.atKey (.int .i64 i) (.held z) = .held ((M i).getD z)
  has_ : ∀ i, Maps.has D (.int .i64 i) = (M i).isSome
  small : ∀ i, (M i).isSome = true → 0 ≤ i ∧ i ≤ 63
theorem isKeyI (i : Int) : WideAt.IsKeyLit (.int .i64 i) := by first | trivial | exact ⟨⟩ | simp [WideAt.IsKeyLit]
theorem ne_keyI {i j : Int} (h : j ≠ i) : (Lit.int .i64 j) ≠ .int .i64 i := fun e => by injection e with _ e; exact h e
theorem DatIs.start : DatIs (.map []) (fun _ => none) := ⟨fun i z => rfl, fun i => rfl, fun i h => by simp at h⟩
theorem DatIs.put {D : DataW Value} {M : Int → Option Value} (h : DatIs D M) (hD : Maps.IsMap D) {i : Int} (h0 : 0 ≤ i) (h1 : i ≤ 63) (v : Value) : DatIs (D.put (.int .i64 i) (.held v)) (fun j => if j = i then some v else M j) := by
  refine ⟨fun j z => ?_, fun j => ?_, fun j hj => ?_⟩
  · by_cases e : j = i
    · subst e; rw [atKey_put_same hD (isKeyI j)]; simp
    · rw [atKey_put_other (ne_keyI e), h.at_, if_neg e]
  · by_cases e : j = i
    · subst e; rw [has_put_same hD (isKeyI j)]; simp
    · rw [has_put_other (ne_keyI e), h.has_]; simp only [if_neg e]
  · by_cases e : j = i
    · subst e; exact ⟨h0, h1⟩
    · simp only [if_neg e] at hj; exact h.small j hj
theorem DatIs.del {D : DataW Value} {M : Int → Option Value} (h : DatIs D M) (i : Int) : DatIs (D.del (.int .i64 i)) (fun j => if j = i then none else M j) := by
  refine ⟨fun j z => ?_, fun j => ?_, fun j hj => ?_⟩
  · by_cases e : j = i
    · subst e; rw [atKey_del_same]; simp
    · rw [atKey_del_other (ne_keyI e), h.at_, if_neg e]
  · by_cases e : j = i
    · subst e; rw [has_del_same]; simp
    · rw [has_del_other (ne_keyI e), h.has_]; simp only [if_neg e]
  · by_cases e : j = i
    · subst e; simp at hj
    · simp only [if_neg e] at hj; exact h.small j hj
/-- The keys in their order. -/
def keysL (M : Int → Option Value) : List Int := ((List.range 64).map fun (i : Nat) => (i : Int)).filter fun i => (M i).isSome
theorem keysL_sorted (M : Int → Option Value) : (keysL M).Pairwise (· < ·) := by
  unfold keysL
  refine List.Pairwise.filter _ ?_
  rw [List.pairwise_map]
  exact List.pairwise_lt_range.imp fun h => by omega
theorem keysL_mem {M : Int → Option Value} (hs : ∀ i, (M i).isSome = true → 0 ≤ i ∧ i ≤ 63) (i : Int) : i ∈ keysL M ↔ (M i).isSome = true := by
  unfold keysL
  rw [List.mem_filter, List.mem_map]
  constructor
  · rintro ⟨_, hk⟩; exact hk
  · intro h
    obtain ⟨h0, h1⟩ := hs i h
    exact ⟨⟨i.toNat, List.mem_range.2 (by omega), Int.toNat_of_nonneg h0⟩, h⟩
theorem keysL_len (M : Int → Option Value) : (keysL M).length ≤ 64 := by
  unfold keysL
  refine Nat.le_trans (List.length_filter_le _ _) ?_
  simp
section
variable {w w' : World} {b nn : Nat} {D : DataW Value} {M : Int → Option Value}
theorem keys_perm (hown : w.ownsMap Tryz.prog 3 hdR b nn D) (h : DatIs D M) : (keysL M).Perm (intKeys D) := by
  obtain ⟨es, hD, hpw, _⟩ := hown.entries keyI
  obtain ⟨es', hD', hko⟩ := hown.keysOf
  obtain rfl : es = es' := by rw [hD] at hD'; simpa using hD'
  subst hD
  refine perm_intKeys hpw (fun p hp => by obtain ⟨v, hv⟩ := hko p hp; obtain ⟨x, _, hx, _⟩ := Maps.keyOf_i64 Tryz.underlying3 hv; exact ⟨x, hx⟩) ?_ (fun x => by rw [keysL_mem h.small, h.has_])
  exact (keysL_sorted M).imp fun h e => by omega
/-- What a permutation of the keys sorts to. -/
theorem sort_keys (hown : w.ownsMap Tryz.prog 3 hdR b nn D) (h : DatIs D M) {ss : List Int} (hp : ss.Perm (intKeys D)) : ss.mergeSort (fun x y => decide (x ≤ y)) = keysL M := by
  have h1 : ss.mergeSort leI = (keysL M).mergeSort leI := mergeSort_of_perm_i (hp.trans (keys_perm hown h).symm)
  have h2 : (keysL M).mergeSort leI = keysL M := List.mergeSort_of_pairwise ((keysL_sorted M).imp fun h => by simp only [leI, decide_eq_true_eq]; omega)
  exact h1.trans h2
theorem size_keys (hown : w.ownsMap Tryz.prog 3 hdR b nn D) (h : DatIs D M) : Maps.size D ≤ 64 := by
  have hp := (keys_perm hown h).length_eq
  obtain ⟨es, rfl, _⟩ := hown.keysOf
  rw [show (intKeys (DataW.map es)).length = es.length by simp [intKeys]] at hp
  rw [Maps.size_eq, ← hp]
  exact keysL_len M
/-- Block b is the map M. -/
def MapIs (w : World) (b : Nat) (M : Int → Option Value) : Prop := ∃ D, w.ownsMap Tryz.prog 3 hdR b 64 D ∧ DatIs D M
theorem MapIs.of (hown : w.ownsMap Tryz.prog 3 hdR b nn D) (h : DatIs D M) : MapIs w b M := by
  refine ⟨D, ?_, h⟩
  have hs := size_keys hown h
  obtain ⟨es, clock, hb, F, _, rfl⟩ := hown
  exact ⟨es, clock, hb, F, by rwa [Maps.size_eq, length_read] at hs, rfl⟩
theorem MapIs.lt (h : MapIs w b M) : b < w.heap.size := by obtain ⟨D, h, _⟩ := h; exact h.lt
theorem MapIs.kept {row : Option Nat} (h : MapIs w b M) (hg : w.grownBy w' row) (hne : row ≠ some b) : MapIs w' b M := by
  obtain ⟨D, h, hd⟩ := h
  exact ⟨D, h.kept hg (fun e => hne e.symm), hd⟩
theorem MapIs.below (h : MapIs w b M) (hb : Below w.heap.size w w') : MapIs w' b M := h.kept (row := none) ⟨hb.os, hb.tape, hb.output, hb.size, fun k hk _ => hb.block k hk⟩ (by simp)
theorem MapIs.made (w : World) : MapIs (w.alloc (.map #[] 0)) w.heap.size (fun _ => none) := .of (World.ownsMap_made w _ _ _) .start
/-- No cell lies in the map's block. -/
theorem MapIs.no_cell (h : MapIs w b M) (off : Nat) (p : Option Nat) : w.cell? ⟨b, off, p⟩ = none := by
  obtain ⟨D, ⟨es, clock, hb, _⟩, _⟩ := h
  simp [World.cell?, hb]
theorem MapIs.small (h : MapIs w b M) {i : Int} (hi : (M i).isSome = true) : 0 ≤ i ∧ i ≤ 63 := by obtain ⟨D, _, hd⟩ := h; exact hd.small i hi
end

theorem hdZero (w : World) : (zeroValue 156).run Tryz.prog w = .ok hdZ w := Tryz.zeroValue156 w

section
variable {P : Program} {w : World} {b : Nat} {M : Int → Option Value} {ops : Array Oper} {rest : List Oper} {o : Oper} {a : Act} {Q : Exit → Act → World → Prop}
/-- 'v, ok := m[i]'. -/
theorem wp_map_ok (hg : o.guard = none) (m x : Operand) (hop : o.op = Op.lookup 122 m x true) (h : MapIs w b M) (hm : a.eval m = .map (some b)) (i : Int) (hx : a.eval x = .int .i64 i) (hi : (Lit.int .i64 i).wf = true)
    (hK : wpList Tryz.prog ops Q rest (a.put o.dst (.tuple #[(M i).getD hdZ, .bool (M i).isSome])) w) : wpList Tryz.prog ops Q (o :: rest) a w := by
  obtain ⟨D, hown, hd⟩ := h
  refine wpList_lookup_own_ok w hg m x 122 hop 3 156 keyI Tryz.underlying122 hdR (hdZero w) (.held hdZ) [] rfl b 64 D hm hown (.int .i64 i) (.int .i64 i) hx (keyOfI hi) ?_
  intro v ps hv
  obtain rfl : v = (M i).getD hdZ := by
    rw [hd.at_] at hv
    simp only [hdR, Option.some.injEq, Prod.mk.injEq, DataW.held.injEq] at hv
    exact hv.1
  rw [hd.has_]
  exact hK
/-- 'm[i]'. -/
theorem wp_map_at (hg : o.guard = none) (m x : Operand) (hop : o.op = Op.lookup 122 m x false) (h : MapIs w b M) (hm : a.eval m = .map (some b)) (i : Int) (hx : a.eval x = .int .i64 i) (hi : (Lit.int .i64 i).wf = true)
    (hK : wpList Tryz.prog ops Q rest (a.put o.dst ((M i).getD hdZ)) w) : wpList Tryz.prog ops Q (o :: rest) a w := by
  obtain ⟨D, hown, hd⟩ := h
  obtain ⟨v, ps, hrun, hv⟩ := hown.lookup keyI Tryz.underlying122 (hdZero w) (zd := .held hdZ) (zp := []) rfl (keyOfI hi)
  obtain rfl : v = (M i).getD hdZ := by
    rw [hd.at_] at hv
    simp only [hdR, Option.some.injEq, Prod.mk.injEq, DataW.held.injEq] at hv
    exact hv.1
  refine wpList_plain hg fun K' hK' => ?_
  unfold Oper.wp
  simp [execOp, hop, hm, hx, hrun, Result.andThen]
  exact hK' _ _ hK
/-- 'm[i] = v'. -/
theorem wp_map_put (hg : o.guard = none) (m x v : Operand) (hop : o.op = Op.mapUpdate 122 m x v) (h : MapIs w b M) (hm : a.eval m = .map (some b)) (i : Int) (hx : a.eval x = .int .i64 i) (h0 : 0 ≤ i) (h1 : i ≤ 63) (u : Value) (hv : a.eval v = u)
    (hK : ∀ w', MapIs w' b (fun j => if j = i then some u else M j) → w.grownBy w' (some b) → wpList Tryz.prog ops Q rest (a.put o.dst undef) w') : wpList Tryz.prog ops Q (o :: rest) a w := by
  obtain ⟨D, hown, hd⟩ := h
  exact wpList_mapUpdate_own w hg m x v 122 hop 3 156 keyI Tryz.underlying122 hdR b 64 D hm hown (by unfold maxLen; omega) _ u (.int .i64 i) hx hv (keyOfI (wf64 h0 (by omega))) (.held u) [] rfl
    fun w' hown' hg' => hK w' (.of hown' (hd.put hown.isMap h0 h1 u)) hg'
/-- 'delete(m, i)'. -/
theorem wp_map_del (hg : o.guard = none) (m x : Operand) (hop : o.op = Op.call { callee := Callee.builtin Builtin.delete, args := #[m, x], argTypes := #[122, 3] }) (h : MapIs w b M) (hm : a.eval m = .map (some b)) (i : Int) (hx : a.eval x = .int .i64 i) (hi : (Lit.int .i64 i).wf = true)
    (hK : ∀ w', MapIs w' b (fun j => if j = i then none else M j) → w.grownBy w' (some b) → wpList Tryz.prog ops Q rest (a.put o.dst (.tuple #[])) w') : wpList Tryz.prog ops Q (o :: rest) a w := by
  obtain ⟨D, hown, hd⟩ := h
  exact wpList_delete_own w hg m x 122 3 hop 156 keyI Tryz.underlying122 hdR b 64 D hm hown _ (.int .i64 i) hx (keyOfI hi)
    fun w' hown' ht => hK w' (.of hown' (hd.del i)) ht.grown
end

end Go.Proofs.YtbkpholkjgjicaaGreat

namespace Go.Proofs.YtbkpholkjgjicaaGreat
set_option linter.unusedVariables false
open Go.RowKit Go.Maps Go.Sort

set_option maxRecDepth 100000 in
set_option maxHeartbeats 1600000 in
theorem dclone_any (w : World) (v : Value) (x : La) (h : LaAt w v x) (hb1 : x.adj.length ≤ 1000000) (hb2 : x.pre.length ≤ 1000000) :
    Calls Tryz.prog 79 #[v] w fun e w' => ∃ v', e = .returned v' ∧ LaOwn w' w.heap.size v' x ∧ Below w.heap.size w w' := by
  obtain ⟨A, c, B, d, rfl, rA, rB, h1, h2, h3, h4, hu⟩ := h
  have S := ((((St.start w).read rB).read rA).new' #[.int .i64 x.o, .int .i64 x.s, .int .i64 x.a, .bool x.ov, .slice A x.adj.length c, .slice B x.pre.length d] 52 w.heap.size _ rfl rfl).new' #[.int .i64 0, .int .i64 0, .int .i64 0, .bool false, .slice none 0 0, .slice none 0 0] 52 (w.heap.size + 1) _ (by simp) rfl
  have C1 := fun W (h : Rd W A (adV x.adj)) => clone_ad W A _ c x.adj h rfl hb1
  have C2 := fun W (h : Rd W B (pfV x.pre)) => clone_pf W B _ d x.pre h rfl hb2
  have hfin : ∀ W' A' c' B' d', W'.ownsRow w.heap.size 134 3 (.slice A' x.adj.length c') x.adj.length (adV x.adj) → W'.ownsRow w.heap.size 100 2 (.slice B' x.pre.length d') x.pre.length (pfV x.pre) → LaOwn W' w.heap.size (laV x.o x.s x.a x.ov A' x.adj.length c' B' x.pre.length d') x := fun W' A' c' B' d' a b => ⟨A', c', B', d', rfl, a, b, hu⟩
  clear rA rB hu
  replace C1 := Lib.hid C1
  replace C2 := Lib.hid C2
  replace hfin := Lib.hid hfin
  generalize x.adj.length = n at *
  generalize x.pre.length = m at *
  generalize x.ov = ov at *
  generalize x.o = o at *
  generalize x.s = s at *
  generalize x.a = ag at *
  have a0 := S.c 1 0 rfl rfl
  have a1 := S.c 1 1 rfl rfl
  have a2 := S.c 1 2 rfl rfl
  have a3 := S.c 1 3 rfl rfl
  have a4 := S.c 1 4 rfl rfl
  have a5 := S.c 1 5 rfl rfl
  go_enter Tryz.func79, Tryz.ntmps79
  go_wp2_with fail
  (with_reducible refine (C1.out _ (S.r 0 rfl)).mono ?_)
  rintro e w1 ⟨A1, c1, rfl, o1, hb⟩
  clear a0 a1 a2 a3 a4 a5
  replace S := S.call hb
  clear hb C1
  simp only [World.size_alloc] at o1
  have f1 := S.f 1 4 rfl rfl
  have a0 := S.c 1 0 rfl rfl
  have a1 := S.c 1 1 rfl rfl
  have a2 := S.c 1 2 rfl rfl
  have a3 := S.c 1 3 rfl rfl
  have a4 := S.c 1 4 rfl rfl
  have a5 := S.c 1 5 rfl rfl
  have S2 := S.set 1 4 (.slice A1 n c1) rfl (by simp) (Nat.le_refl _) (by simp) _ rfl
  replace o1 := ownsRow_setCell_below (a := ⟨w.heap.size, 4, none⟩) o1 (by simp only; omega) (.slice A1 n c1)
  have hsz := S2.b.size
  have hlt := S2.lt 0 rfl (by simp)
  go_wp2_with fail
  generalize w1.setCell ⟨w.heap.size, 4, none⟩ (.slice A1 n c1) = w2 at *
  (with_reducible refine (C2.out _ (S2.r 1 rfl)).mono ?_)
  rintro e w3 ⟨B1, d1, rfl, o2, hb⟩
  clear a0 a1 a2 a3 a4 a5
  clear f1 C2 S
  replace o1 := own_below o1 hb
  replace S2 := S2.call hb
  clear hb
  have f2 := S2.f 1 5 rfl rfl
  have e0 := S2.f 0 0 rfl rfl
  have e1 := S2.f 0 1 rfl rfl
  have e2 := S2.f 0 2 rfl rfl
  have e3 := S2.f 0 3 rfl rfl
  have e4 := S2.f 0 4 rfl rfl
  have e5 := S2.f 0 5 rfl rfl
  have a0 := S2.c 1 0 rfl rfl
  have a1 := S2.c 1 1 rfl rfl
  have a2 := S2.c 1 2 rfl rfl
  have a3 := S2.c 1 3 rfl rfl
  have a4 := S2.c 1 4 rfl rfl
  have a5 := S2.c 1 5 rfl rfl
  have b0 := S2.c 0 0 rfl rfl
  have b1 := S2.c 0 1 rfl rfl
  have b2 := S2.c 0 2 rfl rfl
  have b3 := S2.c 0 3 rfl rfl
  have b4 := S2.c 0 4 rfl rfl
  have b5 := S2.c 0 5 rfl rfl
  have S9 := (S2.set 1 5 (.slice B1 m d1) rfl (by simp) (Nat.le_refl _) (by simp) _ rfl).set6 o s ag ov (.slice A1 n c1) (.slice B1 m d1) (by omega) (by simp)
  have o3 := own_set6 (ownsRow_setCell_below (a := ⟨w.heap.size, 5, none⟩) o1 (by simp only; omega) (.slice B1 m d1)) (g := w.heap.size + 1) (by omega) (.int .i64 o) (.int .i64 s) (.int .i64 ag) (.bool ov) (.slice A1 n c1) (.slice B1 m d1)
  have o4 := own_set6 (ownsRow_setCell_below (a := ⟨w.heap.size, 5, none⟩) o2 (by simp only; omega) (.slice B1 m d1)) (g := w.heap.size + 1) (by omega) (.int .i64 o) (.int .i64 s) (.int .i64 ag) (.bool ov) (.slice A1 n c1) (.slice B1 m d1)
  have hf := hfin.out _ _ _ _ _ (own_mono o3 (by omega)) (own_mono o4 (by omega))
  have hb9 := S9.b
  go_wp2_with fail
  exact bodyPost_ret (v := laV o s ag ov A1 n c1 B1 m d1) (by simp [results, Tryz.results79, go_sem, b0, b1, b2, b3, b4, b5]) rfl ⟨_, rfl, hf, hb9⟩

/-! ### The database -/
/-- A held advertisement. -/
structure Hd where
  x : La
  l : Int
abbrev Db := Nat → Option Hd
abbrev hdV (x : La) (A : Option Addr) (c : Nat) (B : Option Addr) (d : Nat) (l : Int) : Value := .agg #[.int .i64 x.o, .int .i64 x.s, .int .i64 x.a, .bool x.ov, .slice A x.adj.length c, .slice B x.pre.length d, .int .i64 l]
/-- The block of a slice holds things of one type. -/
def TyA (w : World) (A : Option Addr) (n : Nat) (e : TypeId) : Prop := 0 < n → ∀ ad, A = some ad → ∃ cs fr, w.heap[ad.block]? = some (.cells cs e fr)
theorem TyA.keep {w w' : World} {A : Option Addr} {n : Nat} {e : TypeId} (h : TyA w A n e) (hk : ∀ ad, A = some ad → (w.heap[ad.block]?).isSome = true → (∃ cs fr, w.heap[ad.block]? = some (.cells cs e fr)) → w'.heap[ad.block]? = w.heap[ad.block]?) : TyA w' A n e := fun hn ad ha => by
  obtain ⟨cs, fr, e⟩ := h hn ad ha
  exact ⟨cs, fr, (hk ad ha (by rw [e]; rfl) ⟨cs, fr, e⟩).trans e⟩
theorem heap_lt {w : World} {k : Nat} {o : Obj} (h : w.heap[k]? = some o) : k < w.heap.size := (Array.getElem?_eq_some_iff.1 h).1
theorem TyA.below {w w' : World} {A : Option Addr} {n : Nat} {e : TypeId} (h : TyA w A n e) (hb : Below w.heap.size w w') : TyA w' A n e :=
  h.keep fun ad _ _ ⟨cs, fr, e⟩ => hb.block _ (heap_lt e)
/-- An advertisement whose slices lie in blocks of their types. -/
def LaTy (w : World) (x : La) (A : Option Addr) (c : Nat) (B : Option Addr) (d : Nat) : Prop := LaAt w (laV x.o x.s x.a x.ov A x.adj.length c B x.pre.length d) x ∧ TyA w A x.adj.length 134 ∧ TyA w B x.pre.length 100
theorem LaTy.below {w w' : World} {x : La} {A : Option Addr} {c : Nat} {B : Option Addr} {d : Nat} (h : LaTy w x A c B d) (hb : Below w.heap.size w w') : LaTy w' x A c B d := ⟨LaAt.below h.1 hb, h.2.1.below hb, h.2.2.below hb⟩
theorem LaTy.renum {w : World} {x : La} {A : Option Addr} {c : Nat} {B : Option Addr} {d : Nat} (h : LaTy w x A c B d) (o' s' a' : Int) (ov' : Bool) : LaTy w ⟨o', s', a', ov', x.adj, x.pre⟩ A c B d := ⟨LaAt.renum h.1 o' s' a' ov', h.2.1, h.2.2⟩
theorem own_ty {w : World} {base : Nat} {e : TypeId} {size : Nat} {A : Option Addr} {n c : Nat} {xs : List Value} (h : w.ownsRow base e size (.slice A n c) n xs) : TyA w A n e := fun hn ad ha => by
  rcases h.2 with ⟨h2, h3⟩ | ⟨g, cap, cur, h2, hgb, hh, r⟩
  · omega
  · injection h2 with h2 _ _
    rw [ha] at h2
    injection h2 with h2
    subst h2
    exact ⟨_, _, hh⟩
theorem LaOwn.ty {w : World} {base : Nat} {v : Value} {x : La} (h : LaOwn w base v x) : ∃ A c B d, v = laV x.o x.s x.a x.ov A x.adj.length c B x.pre.length d ∧ Hid (∀ W', Below w.heap.size w W' → LaTy W' x A c B d) := by
  have ha := h.at
  obtain ⟨A, c, B, d, rfl, o1, o2, hu⟩ := h
  exact ⟨A, c, B, d, rfl, fun W' hb => ⟨ha.below hb, (own_ty o1).below hb, (own_ty o2).below hb⟩⟩
/-- An element of the map. -/
def ElAt (w : World) : Option Value → Option Hd → Prop
  | none, none => True
  | some v, some h => ∃ A c B d, v = hdV h.x A c B d h.l ∧ LaTy w h.x A c B d
  | _, _ => False
theorem ElAt.below {w w' : World} {v : Option Value} {h : Option Hd} (he : ElAt w v h) (hb : Below w.heap.size w w') : ElAt w' v h := by
  match v, h, he with
  | none, none, _ => trivial
  | some v, some h, ⟨A, c, B, d, e, hl⟩ => exact ⟨A, c, B, d, e, hl.below hb⟩
/-- A row that is read does not lie in a map's block. -/
theorem Rd.keptMap {w w' : World} {A : Option Addr} {xs : List Value} {b : Nat} {M : Int → Option Value} (h : Rd w A xs) (hm : MapIs w b M) (hg : w.grownBy w' (some b)) : Rd w' A xs := by
  intro hn
  obtain ⟨ad, e, hb⟩ := h.block hn
  obtain ⟨ad', e', hc⟩ := h hn
  rw [e] at e'
  injection e' with e'
  subst e'
  refine ⟨ad, e, fun j u hu => ?_⟩
  have hcell := hc j u hu
  have hne : (ad.add j).block ≠ b := fun e2 => by
    have := hm.no_cell (ad.add j).off (ad.add j).spot
    rw [← e2] at this
    rw [show (⟨(ad.add j).block, (ad.add j).off, (ad.add j).spot⟩ : Addr) = ad.add j from rfl, hcell] at this
    cases this
  rw [World.cell?_of_block (hg.block _ (World.block_lt_of_cell? _ _ hcell) (fun e2 => hne (by injection e2)))]
  exact hcell
theorem LaAt.keptMap {w w' : World} {v : Value} {x : La} {b : Nat} {M : Int → Option Value} (h : LaAt w v x) (hm : MapIs w b M) (hg : w.grownBy w' (some b)) : LaAt w' v x := by
  obtain ⟨A, c, B, d, rfl, h1, h2, h3⟩ := h
  exact ⟨A, c, B, d, rfl, h1.keptMap hm hg, h2.keptMap hm hg, h3⟩
theorem LaTy.keptMap {w w' : World} {x : La} {A : Option Addr} {c : Nat} {B : Option Addr} {d : Nat} {b : Nat} {M : Int → Option Value} (h : LaTy w x A c B d) (hm : MapIs w b M) (hg : w.grownBy w' (some b)) : LaTy w' x A c B d := by
  have key : ∀ {A : Option Addr} {n : Nat} {e : TypeId}, TyA w A n e → TyA w' A n e := fun {A n e} h => h.keep fun ad _ _ ⟨cs, fr, e2⟩ => hg.block _ (heap_lt e2) (fun e3 => by
    injection e3 with e3
    obtain ⟨D, ⟨es, clock, hb, _⟩, _⟩ := hm
    rw [e3, hb] at e2
    cases e2)
  exact ⟨LaAt.keptMap h.1 hm hg, key h.2.1, key h.2.2⟩
theorem ElAt.keptMap {w w' : World} {v : Option Value} {h : Option Hd} {b : Nat} {M : Int → Option Value} (he : ElAt w v h) (hm : MapIs w b M) (hg : w.grownBy w' (some b)) : ElAt w' v h := by
  match v, h, he with
  | none, none, _ => trivial
  | some v, some h, ⟨A, c, B, d, e, hl⟩ => exact ⟨A, c, B, d, e, hl.keptMap hm hg⟩
/-- The database in block g, its map in block b. -/
structure DbAt (w : World) (g b : Nat) (N : Db) : Prop where
  ex : ∃ M, MapIs w b M ∧ ∀ i : Nat, i < 64 → ElAt w (M (i : Int)) (N i)
  cell : w.cell? ⟨g, 0, none⟩ = some (.map (some b))
theorem DbAt.below {w w' : World} {g b : Nat} {N : Db} (h : DbAt w g b N) (hb : Below w.heap.size w w') : DbAt w' g b N := by
  obtain ⟨⟨M, hm, he⟩, hc⟩ := h
  exact ⟨⟨M, hm.below hb, fun i hi => (he i hi).below hb⟩, cell_later hb hc⟩
theorem DbAt.lt {w : World} {g b : Nat} {N : Db} (h : DbAt w g b N) : g < w.heap.size ∧ b < w.heap.size := by
  obtain ⟨⟨M, hm, _⟩, hc⟩ := h
  exact ⟨World.block_lt_of_cell? _ _ hc, hm.lt⟩
theorem DbAt.ne {w : World} {g b : Nat} {N : Db} (h : DbAt w g b N) : g ≠ b := fun e => by
  obtain ⟨⟨M, hm, _⟩, hc⟩ := h
  rw [e, hm.no_cell] at hc
  cases hc
/-- Beside a map that was written: another element there. -/
theorem DbAt.put {w w' : World} {g b : Nat} {N : Db} {M : Int → Option Value} (hm : MapIs w b M) (he : ∀ i : Nat, i < 64 → ElAt w (M (i : Int)) (N i)) (hc : w.cell? ⟨g, 0, none⟩ = some (.map (some b))) (hgb : g ≠ b) (k : Nat) (hk : k < 64) (v : Option Value) (h : Option Hd) (hv : ElAt w v h)
    (hm' : MapIs w' b (fun j => if j = (k : Int) then v else M j)) (hg : w.grownBy w' (some b)) : DbAt w' g b (fun i => if i = k then h else N i) := by
  refine ⟨⟨_, hm', fun i hi => ?_⟩, ?_⟩
  · by_cases e : i = k
    · subst e; simp only [if_true]; exact hv.keptMap hm hg
    · have e' : ¬ (i : Int) = (k : Int) := by omega
      simp only [if_neg e, if_neg e']
      exact (he i hi).keptMap hm hg
  · rw [World.cell?_of_block (a := ⟨g, 0, none⟩) (hg.block g (World.block_lt_of_cell? _ _ hc) (fun e => hgb (by injection e)))]
    exact hc

set_option maxRecDepth 100000 in
set_option maxHeartbeats 1600000 in
/-- New. -/
theorem dnew_any (w : World) : Calls Tryz.prog 23 #[] w fun e w' => e = .returned (.pointer (some ⟨w.heap.size + 1, 0, none⟩)) ∧ DbAt w' (w.heap.size + 1) w.heap.size (fun _ => none) ∧ Below w.heap.size w w' := by
  have hfin : DbAt ((w.alloc (.map #[] 0)).alloc (.cells #[.map (some w.heap.size)] 124)) (w.heap.size + 1) w.heap.size (fun _ => none) := by
    have hb := below_new' (w.alloc (.map #[] 0)) (.cells #[.map (some w.heap.size)] 124)
    refine ⟨⟨_, (MapIs.made w).below hb, fun i hi => trivial⟩, ?_⟩
    simp
  have hbl : Below w.heap.size w ((w.alloc (.map #[] 0)).alloc (.cells #[.map (some w.heap.size)] 124)) := (below_new' w _).trans ((below_new' _ _).mono (by simp))
  have hmm := @run_makeMap Tryz.prog
  replace hfin := Lib.hid hfin
  go_enter Tryz.func23, Tryz.ntmps23
  go_wp2_with fail
  go_ret
  exact ⟨rfl, hfin.out, hbl⟩

end Go.Proofs.YtbkpholkjgjicaaGreat

namespace Go.Proofs.YtbkpholkjgjicaaGreat
set_option linter.unusedVariables false
open Go.RowKit Go.Maps Go.Sort

/-! ### The look-ups as equations, for regions that draw their order -/
theorem MapIs.run_ok {w : World} {b : Nat} {M : Int → Option Value} (h : MapIs w b M) {i : Int} (hi : (Lit.int .i64 i).wf = true) :
    (Instr.lookup 122 (.map (some b)) (.int .i64 i) true).run Tryz.prog w = .ok (.tuple #[(M i).getD hdZ, .bool (M i).isSome]) w := by
  obtain ⟨D, hown, hd⟩ := h
  obtain ⟨v, ps, hrun, hv⟩ := hown.look_ok keyI Tryz.underlying122 (hdZero w) (zd := .held hdZ) (zp := []) rfl (keyOfI hi)
  obtain rfl : v = (M i).getD hdZ := by
    rw [hd.at_] at hv
    simp only [hdR, Option.some.injEq, Prod.mk.injEq, DataW.held.injEq] at hv
    exact hv.1
  rw [hd.has_] at hrun
  exact hrun
theorem MapIs.run_at {w : World} {b : Nat} {M : Int → Option Value} (h : MapIs w b M) {i : Int} (hi : (Lit.int .i64 i).wf = true) :
    (Instr.lookup 122 (.map (some b)) (.int .i64 i) false).run Tryz.prog w = .ok ((M i).getD hdZ) w := by
  obtain ⟨D, hown, hd⟩ := h
  obtain ⟨v, ps, hrun, hv⟩ := hown.lookup keyI Tryz.underlying122 (hdZero w) (zd := .held hdZ) (zp := []) rfl (keyOfI hi)
  obtain rfl : v = (M i).getD hdZ := by
    rw [hd.at_] at hv
    simp only [hdR, Option.some.injEq, Prod.mk.injEq, DataW.held.injEq] at hv
    exact hv.1
  exact hrun
theorem MapIs.drewN {w : World} {b : Nat} {M : Int → Option Value} (h : MapIs w b M) (n : Nat) : MapIs (w.drewN n) b M := h
theorem MapIs.drew {w : World} {b : Nat} {M : Int → Option Value} (h : MapIs w b M) : MapIs w.drew b M := h

theorem eqlSome (bm : Nat) (w : World) : (binOp .eql 122 (.map (some bm)) (.map none)).run Tryz.prog w = .ok (.bool false) w := by kernel_rfl
theorem below_row {w w' : World} (hb : Below w.heap.size w w') (row : Option Nat) : w.grownBy w' row := ⟨hb.os, hb.tape, hb.output, hb.size, fun k hk _ => hb.block k hk⟩
/-- 'm[i] = v', as an equation. -/
theorem MapIs.run_put {w : World} {b : Nat} {M : Int → Option Value} (h : MapIs w b M) {i : Int} (h0 : 0 ≤ i) (h1 : i ≤ 63) (u : Value) :
    ∃ w', (Instr.mapUpdate 122 (.map (some b)) (.int .i64 i) u).run Tryz.prog w = .ok () w' ∧ MapIs w' b (fun j => if j = i then some u else M j) ∧ w.grownBy w' (some b) := by
  obtain ⟨D, hown, hd⟩ := h
  obtain ⟨w', hrun, r1, r2⟩ := hown.update keyI Tryz.underlying122 (by unfold maxLen; omega) (keyOfI (wf64 h0 (by omega))) (val := u) (d := .held u) (ps := []) rfl
  exact ⟨w', hrun, .of r1 (hd.put hown.isMap h0 h1 u), r2⟩

/-- What Install does: the database, the result, the error. -/
noncomputable def instR (N : Db) (a : La) : Int := if vB a = true then match N a.o.toNat with | some h => if newI a h.x = 0 then 2 else if newI a h.x = -1 then 3 else 1 | none => 1 else 0
noncomputable def instE (a : La) : Int := if vB a = true then 0 else 1
noncomputable def instN (N : Db) (a : La) : Db := if vB a = true ∧ instR N a = 1 then fun i => if i = a.o.toNat then some ⟨a, 60⟩ else N i else N
def InstPost (w : World) (g b : Nat) (N : Db) (a : La) (e : Ending) (w' : World) : Prop :=
  e = .returned (.tuple #[.int .i64 (instR N a), .int .i64 (instE a)]) ∧ DbAt w' g b (instN N a) ∧ w.grownBy w' (some b)

set_option maxRecDepth 100000 in
set_option maxHeartbeats 6400000 in
theorem dinstall_any (w : World) (g b : Nat) (N : Db) (v : Value) (a : La) (h : DbAt w g b N) (hv : LaAt w v a) : Calls Tryz.prog 71 #[.pointer (some ⟨g, 0, none⟩), v] w (InstPost w g b N a) := by
  obtain ⟨A, c, B, d, rfl, hl⟩ := hv.opened
  clear hv
  have S := (St.start w).new' #[.int .i64 a.o, .int .i64 a.s, .int .i64 a.a, .bool a.ov, .slice A a.adj.length c, .slice B a.pre.length d] 52 w.heap.size _ rfl rfl
  have V := fun W hb => valid_at W _ a (hl.below hb)
  have hpost : Hid (∀ r er N' e w', instR N a = r → instE a = er → instN N a = N' → e = Ending.returned (.tuple #[.int .i64 r, .int .i64 er]) → DbAt w' g b N' → w.grownBy w' (some b) → InstPost w g b N a e w') := fun r er N' e w' h1 h2 h3 h4 h5 h6 => by subst h1 h2 h3; exact ⟨h4, h5, h6⟩
  rcases hvb : vB a with _ | _
  · have e1 : instR N a = 0 := by unfold instR; rw [hvb, if_neg (by simp)]
    have e2 : instE a = 1 := by unfold instE; rw [hvb, if_neg (by simp)]
    have e3 : instN N a = N := by unfold instN; rw [hvb, if_neg (by simp)]
    rw [hvb] at V
    replace V := Lib.hid V
    have hfin : Hid (∀ w', Below w.heap.size w w' → DbAt w' g b N ∧ w.grownBy w' (some b)) := fun w' hb => ⟨h.below hb, ⟨hb.os, hb.tape, hb.output, hb.size, fun k hk _ => hb.block k hk⟩⟩
    replace e1 := Lib.hid e1
    replace e2 := Lib.hid e2
    replace e3 := Lib.hid e3
    clear h hl hvb
    have a0 := S.c 0 0 rfl rfl
    have a1 := S.c 0 1 rfl rfl
    have a2 := S.c 0 2 rfl rfl
    have a3 := S.c 0 3 rfl rfl
    have a4 := S.c 0 4 rfl rfl
    have a5 := S.c 0 5 rfl rfl
    go_enter Tryz.func71, Tryz.ntmps71
    go_wp2_with fail
    (with_reducible refine (V.out _ S.b).mono ?_)
    rintro e w1 ⟨rfl, hb⟩
    clear a0 a1 a2 a3 a4 a5
    replace S := S.call hb
    obtain ⟨f1, f2⟩ := hfin.out _ S.b
    go_wp2_with fail
    go_ret2
    exact hpost.out _ _ _ _ _ e1.out e2.out e3.out rfl f1 f2
  have hva := vB_iff.1 hvb
  have ho := hva.1
  have hadj := hva.2.2.2.1
  have hpre := hva.2.2.2.2.1
  obtain ⟨k, hk⟩ := Int.eq_ofNat_of_zero_le ho.1
  have e2 : instE a = 0 := by unfold instE; rw [hvb, if_pos rfl]
  rw [hvb] at V
  replace V := Lib.hid V
  obtain ⟨⟨M, hm, he⟩, hc⟩ := id h
  have hek := he k (by omega)
  have hgb := h.ne
  have C := fun W hb => dclone_any W _ a (hl.below hb) (by omega) (by omega)
  replace C := Lib.hid C
  replace hk : Hid (a.o = (k : Int)) := hk
  replace e2 := Lib.hid e2
  have hwf : (Lit.int .i64 a.o).wf = true := wf64 ho.1 (by omega)
  have hfin : Hid (∀ w', Below w.heap.size w w' → DbAt w' g b N ∧ w.grownBy w' (some b)) := fun w' hb => ⟨h.below hb, ⟨hb.os, hb.tape, hb.output, hb.size, fun k hk _ => hb.block k hk⟩⟩
  have a0 := S.c 0 0 rfl rfl
  have a1 := S.c 0 1 rfl rfl
  have a2 := S.c 0 2 rfl rfl
  have a3 := S.c 0 3 rfl rfl
  have a4 := S.c 0 4 rfl rfl
  have a5 := S.c 0 5 rfl rfl
  go_enter Tryz.func71, Tryz.ntmps71
  go_wp2_with fail
  (with_reducible refine (V.out _ S.b).mono ?_)
  rintro e w1 ⟨rfl, hb⟩
  clear a0 a1 a2 a3 a4 a5
  replace S := S.call hb
  clear V hb
  have hm1 := hm.below S.b
  have hc1 := cell_later S.b hc
  generalize hMv : (M a.o).getD hdZ = u at *
  generalize hMs : (M a.o).isSome = ok at *
  have b2 := below_new' w1 (.cells #[.int .i64 0, .int .i64 0, .int .i64 0, .bool false, .slice none 0 0, .slice none 0 0, .int .i64 0] 156)
  have L1 := (hm1.drew).run_ok hwf
  have L2 := (hm1.below b2).drew.run_ok hwf
  have T := S.drew
  have T2 := (S.alloc (.cells #[.int .i64 0, .int .i64 0, .int .i64 0, .bool false, .slice none 0 0, .slice none 0 0, .int .i64 0] 156)).drew
  have c1 : w1.drew.cell? ⟨g, 0, none⟩ = some (.map (some b)) := hc1
  have c2 : (w1.alloc (.cells #[.int .i64 0, .int .i64 0, .int .i64 0, .bool false, .slice none 0 0, .slice none 0 0, .int .i64 0] 156)).drew.cell? ⟨g, 0, none⟩ = some (.map (some b)) := (by have := cell_later b2 hc1; exact this)
  rw [hMv, hMs] at L1 L2
  have hu : ∃ u0 u1 u2 u3 A9 n9 c9 B9 m9 d9 u6, u = .agg #[.int .i64 u0, .int .i64 u1, .int .i64 u2, .bool u3, .slice A9 n9 c9, .slice B9 m9 d9, .int .i64 u6] := by
    rw [← hMv]
    cases hM : M a.o with
    | none => exact ⟨_, _, _, _, _, _, _, _, _, _, _, rfl⟩
    | some vv =>
      rw [← hk.out, hM] at hek
      cases hN : N k with
      | none => rw [hN] at hek; exact hek.elim
      | some hh =>
        rw [hN] at hek
        obtain ⟨A9, c9, B9, d9, rfl, _⟩ := hek
        exact ⟨_, _, _, _, _, _, _, _, _, _, _, rfl⟩
  obtain ⟨u0, u1, u2, u3, A9, n9, c9, B9, m9, d9, u6, rfl⟩ := hu
  replace hMv := Lib.hid hMv
  replace hMs := Lib.hid hMs
  have a0 := T.c 0 0 rfl rfl
  have a1 := T.c 0 1 rfl rfl
  have a2 := T.c 0 2 rfl rfl
  have a3 := T.c 0 3 rfl rfl
  have a4 := T.c 0 4 rfl rfl
  have a5 := T.c 0 5 rfl rfl
  have r0 := T2.c 0 0 rfl rfl
  have r1 := T2.c 0 1 rfl rfl
  have r2 := T2.c 0 2 rfl rfl
  have r3 := T2.c 0 3 rfl rfl
  have r4 := T2.c 0 4 rfl rfl
  have r5 := T2.c 0 5 rfl rfl
  go_upto_region 5 with fail
  go_cut [6, 7] (fun v6 v7 wx => v6 = .pointer (some ⟨w1.heap.size, 0, none⟩) ∧ v7 = .bool ok ∧ wx = (w1.alloc (.cells #[.int .i64 u0, .int .i64 u1, .int .i64 u2, .bool u3, .slice A9 n9 c9, .slice B9 m9 d9, .int .i64 u6] 156)).drew)
  case first =>
    go_region_law (fail)
    all_goals
      go_wp2_with fail
      go_meet
      exact ⟨rfl, rfl, rfl⟩
  case rest =>
    obtain ⟨rfl, rfl, rfl⟩ := hcut
    clear a0 a1 a2 a3 a4 a5
    clear r0 r1 r2 r3 r4 r5
    clear T T2 L1 L2 c1 c2 b2
    have b3 := below_new' w1 (.cells #[.int .i64 u0, .int .i64 u1, .int .i64 u2, .bool u3, .slice A9 n9 c9, .slice B9 m9 d9, .int .i64 u6] 156)
    have S2 := (S.new' #[.int .i64 u0, .int .i64 u1, .int .i64 u2, .bool u3, .slice A9 n9 c9, .slice B9 m9 d9, .int .i64 u6] 156 w1.heap.size _ rfl rfl).drew
    have hm2 := (hm1.below b3).drew
    have c2 : (w1.alloc (.cells #[.int .i64 u0, .int .i64 u1, .int .i64 u2, .bool u3, .slice A9 n9 c9, .slice B9 m9 d9, .int .i64 u6] 156)).drew.cell? ⟨g, 0, none⟩ = some (.map (some b)) := (by have := cell_later b3 hc1; exact this)
    clear S b3
    generalize (w1.alloc _).drew = w2 at *
    generalize w1.heap.size = g2 at *
    have L0 := hMs
    cases ok with
    | false =>
      have hNk : N k = none := by
        have hMn : M a.o = none := by have := hMs.out; simpa using this
        rw [← hk.out, hMn] at hek
        cases hN : N k with
        | none => rfl
        | some hh => rw [hN] at hek; exact hek.elim
      have e1 : instR N a = 1 := by unfold instR; rw [hvb, if_pos rfl, hk.out, Int.toNat_natCast, hNk]
      have S3 := S2
      have c0 := c2
      have e3 : instN N a = fun i => if i = a.o.toNat then some ⟨a, 60⟩ else N i := by unfold instN; rw [if_pos ⟨hvb, e1⟩]
      replace e1 := Lib.hid e1
      replace e3 := Lib.hid e3
      clear hMv hMs L0 hek
      have eqs := eqlSome b
      go_upto_region 14 with fail
      have T := S3.drew
      have c1 := c0
      replace c1 : World.cell? (World.drew _) ⟨g, 0, none⟩ = some (.map (some b)) := c1
      have a0 := T.c 1 0 rfl rfl
      have a1 := T.c 1 1 rfl rfl
      have a2 := T.c 1 2 rfl rfl
      have a3 := T.c 1 3 rfl rfl
      have a4 := T.c 1 4 rfl rfl
      have a5 := T.c 1 5 rfl rfl
      have tok1 : True := trivial
      go_region_law
        (first
          | (clear tok1; rw [if_pos (by simp [Region.wanted])]; go_simp; (with_reducible refine (C.out _ T.b).mono ?_); rintro e wa ⟨va, rfl, hown, hba⟩; obtain ⟨A5, c5, B5, d5, rfl, hL5⟩ := hown.ty; dsimp only; replace T := T.call hba; replace c1 := cell_later hba c1; have a0 := T.c 1 0 rfl rfl; obtain ⟨w9, run9, hm9, hg9⟩ := (hm.below T.b).run_put ho.1 ho.2 (hdV a A5 c5 B5 d5 60)))
      all_goals
        have hdb : DbAt w9 g b (fun i => if i = k then some ⟨a, 60⟩ else N i) := DbAt.put (hm.below T.b) (fun i hi => (he i hi).below T.b) c1 hgb k (by have := hk.out; omega) (some (hdV a A5 c5 B5 d5 60)) (some ⟨a, 60⟩) ⟨A5, c5, B5, d5, rfl, hL5.out _ (Below.refl _ _)⟩ (by rw [← hk.out]; exact hm9) hg9
        have hgr : w.grownBy w9 (some b) := (below_row T.b _).trans hg9
        have hN9 : instN N a = fun i => if i = k then some ⟨a, 60⟩ else N i := by rw [e3.out, hk.out]; rfl
        replace hN9 := Lib.hid hN9
        clear e3 hm9 hg9 T c1 run9
        go_wp2_with fail
        go_ret2
        exact hpost.out _ _ _ _ _ e1.out e2.out hN9.out rfl hdb hgr
    | true =>
      obtain ⟨hh, hNk, hu, hlx⟩ : ∃ hh, N k = some hh ∧ (.agg #[.int .i64 u0, .int .i64 u1, .int .i64 u2, .bool u3, .slice A9 n9 c9, .slice B9 m9 d9, .int .i64 u6] : Value) = hdV hh.x A9 c9 B9 d9 hh.l ∧ LaAt w (laV hh.x.o hh.x.s hh.x.a hh.x.ov A9 hh.x.adj.length c9 B9 hh.x.pre.length d9) hh.x := by
        rw [hk.out] at hMs hMv
        cases hM : M (k : Int) with
        | none => have := hMs.out; rw [hM] at this; cases this
        | some vv =>
          rw [hM] at hek
          cases hN : N k with
          | none => rw [hN] at hek; exact hek.elim
          | some hh =>
            rw [hN] at hek
            obtain ⟨A8, c8, B8, d8, rfl, hla⟩ := hek
            have hv := hMv.out
            rw [hM] at hv
            simp only [Option.getD_some, Value.agg.injEq, Array.mk.injEq, List.cons.injEq, Value.slice.injEq, Value.int.injEq, Value.bool.injEq, true_and, and_true] at hv
            obtain ⟨rfl, rfl, rfl, rfl, ⟨rfl, rfl, rfl⟩, ⟨rfl, rfl, rfl⟩, rfl⟩ := hv
            exact ⟨hh, rfl, rfl, hla.1⟩
      simp only [Value.agg.injEq, Array.mk.injEq, List.cons.injEq, Value.slice.injEq, Value.int.injEq, Value.bool.injEq, true_and, and_true] at hu
      obtain ⟨rfl, rfl, rfl, rfl, rfl, rfl, rfl⟩ := hu
      have NW := lnewer_any w2 _ _ a hh.x (hl.below S2.b) (hlx.below S2.b)
      obtain ⟨z, hz⟩ : ∃ z, newI a hh.x = z := ⟨_, rfl⟩
      rw [hz] at NW
      replace NW := Lib.hid NW
      have a0 := S2.c 1 0 rfl rfl
      have a1 := S2.c 1 1 rfl rfl
      have a2 := S2.c 1 2 rfl rfl
      have a3 := S2.c 1 3 rfl rfl
      have a4 := S2.c 1 4 rfl rfl
      have a5 := S2.c 1 5 rfl rfl
      have r0 := S2.c 0 0 rfl rfl
      have r1 := S2.c 0 1 rfl rfl
      have r2 := S2.c 0 2 rfl rfl
      have r3 := S2.c 0 3 rfl rfl
      have r4 := S2.c 0 4 rfl rfl
      have r5 := S2.c 0 5 rfl rfl
      go_wp2_with fail
      (with_reducible refine (NW.out).mono ?_)
      rintro e w3 ⟨rfl, hb⟩
      clear a0 a1 a2 a3 a4 a5
      clear r0 r1 r2 r3 r4 r5
      have S3 := S2.call hb
      have c0 := cell_later hb c2
      clear NW hb S2
      have hR : instR N a = if z = 0 then 2 else if z = -1 then 3 else 1 := by unfold instR; rw [hvb, if_pos rfl, hk.out, Int.toNat_natCast, hNk]; simp only [hz]
      by_cases hz0 : z = 0
      · subst hz0
        have e1 : instR N a = 2 := by rw [hR, if_pos rfl]
        have e3 : instN N a = N := by unfold instN; rw [e1, if_neg (by simp)]
        obtain ⟨f1, f2⟩ := hfin.out _ S3.b
        replace e1 := Lib.hid e1
        replace e3 := Lib.hid e3
        clear hR hz hNk
        go_wp2_with fail
        go_ret2
        exact hpost.out _ _ _ _ _ e1.out e2.out e3.out rfl f1 f2
      by_cases hz1 : z = -1
      · subst hz1
        have e1 : instR N a = 3 := by rw [hR, if_neg (by omega), if_pos rfl]
        have e3 : instN N a = N := by unfold instN; rw [e1, if_neg (by simp)]
        obtain ⟨f1, f2⟩ := hfin.out _ S3.b
        replace e1 := Lib.hid e1
        replace e3 := Lib.hid e3
        clear hR hz hNk hz0
        go_wp2_with fail
        go_ret2
        exact hpost.out _ _ _ _ _ e1.out e2.out e3.out rfl f1 f2
      have e1 : instR N a = 1 := by rw [hR, if_neg hz0, if_neg hz1]
      have z0 : (z == 0) = false := by simpa using hz0
      have z1 : (z == -1) = false := by simpa using hz1
      clear hR hz hNk hz0 hz1
      have e3 : instN N a = fun i => if i = a.o.toNat then some ⟨a, 60⟩ else N i := by unfold instN; rw [if_pos ⟨hvb, e1⟩]
      replace e1 := Lib.hid e1
      replace e3 := Lib.hid e3
      clear hMv hMs L0 hek
      have eqs := eqlSome b
      go_upto_region 14 with fail
      have T := S3.drew
      have c1 := c0
      replace c1 : World.cell? (World.drew _) ⟨g, 0, none⟩ = some (.map (some b)) := c1
      have a0 := T.c 1 0 rfl rfl
      have a1 := T.c 1 1 rfl rfl
      have a2 := T.c 1 2 rfl rfl
      have a3 := T.c 1 3 rfl rfl
      have a4 := T.c 1 4 rfl rfl
      have a5 := T.c 1 5 rfl rfl
      have tok1 : True := trivial
      go_region_law
        (first
          | (clear tok1; rw [if_pos (by simp [Region.wanted])]; go_simp; (with_reducible refine (C.out _ T.b).mono ?_); rintro e wa ⟨va, rfl, hown, hba⟩; obtain ⟨A5, c5, B5, d5, rfl, hL5⟩ := hown.ty; dsimp only; replace T := T.call hba; replace c1 := cell_later hba c1; have a0 := T.c 1 0 rfl rfl; obtain ⟨w9, run9, hm9, hg9⟩ := (hm.below T.b).run_put ho.1 ho.2 (hdV a A5 c5 B5 d5 60)))
      all_goals
        have hdb : DbAt w9 g b (fun i => if i = k then some ⟨a, 60⟩ else N i) := DbAt.put (hm.below T.b) (fun i hi => (he i hi).below T.b) c1 hgb k (by have := hk.out; omega) (some (hdV a A5 c5 B5 d5 60)) (some ⟨a, 60⟩) ⟨A5, c5, B5, d5, rfl, hL5.out _ (Below.refl _ _)⟩ (by rw [← hk.out]; exact hm9) hg9
        have hgr : w.grownBy w9 (some b) := (below_row T.b _).trans hg9
        have hN9 : instN N a = fun i => if i = k then some ⟨a, 60⟩ else N i := by rw [e3.out, hk.out]; rfl
        replace hN9 := Lib.hid hN9
        clear e3 hm9 hg9 T c1 run9
        go_wp2_with fail
        go_ret2
        exact hpost.out _ _ _ _ _ e1.out e2.out hN9.out rfl hdb hgr

end Go.Proofs.YtbkpholkjgjicaaGreat
