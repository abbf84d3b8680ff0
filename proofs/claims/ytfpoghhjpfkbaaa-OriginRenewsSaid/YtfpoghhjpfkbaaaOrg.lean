/-
  origin: contents as values, the originator in memory; clone, equal, advertisement, make, New, Floor.
-/
import Derived.Test.YtfpoghhjpfkbaaaClone
import Derived.Test.YtfpoghhjpfkbaaaLaC
import Derived.StillTailTactics
namespace Go.Proofs.Ytfpoghhjpfkbaaa
set_option linter.unusedVariables false
open Go.RowKit

/-- Contents; the numbers of x are of no meaning. -/
abbrev coV (ov : Bool) (A : Option Addr) (n c : Nat) (B : Option Addr) (m d : Nat) : Value := .agg #[.bool ov, .slice A n c, .slice B m d]
def CoAt (w : World) (v : Value) (x : La) : Prop := ∃ A c B d, v = coV x.ov A x.adj.length c B x.pre.length d ∧ Rd w A (adV x.adj) ∧ Rd w B (pfV x.pre) ∧
  x.adj.length ≤ c ∧ c ≤ maxLen ∧ x.pre.length ≤ d ∧ d ≤ maxLen ∧ ∀ p ∈ x.pre, p.1 < 4294967296
def CoOwn (w : World) (base : Nat) (v : Value) (x : La) : Prop := ∃ A c B d, v = coV x.ov A x.adj.length c B x.pre.length d ∧
  w.ownsRow base 71 3 (.slice A x.adj.length c) x.adj.length (adV x.adj) ∧ w.ownsRow base 74 2 (.slice B x.pre.length d) x.pre.length (pfV x.pre) ∧ ∀ p ∈ x.pre, p.1 < 4294967296
theorem CoAt.below {w w' : World} {v : Value} {x : La} (h : CoAt w v x) (hb : Below w.heap.size w w') : CoAt w' v x := by
  obtain ⟨A, c, B, d, rfl, h1, h2, h3⟩ := h
  exact ⟨A, c, B, d, rfl, h1.below hb, h2.below hb, h3⟩
theorem CoOwn.below {w w' : World} {base : Nat} {v : Value} {x : La} (h : CoOwn w base v x) (hb : Below w.heap.size w w') : CoOwn w' base v x := by
  obtain ⟨A, c, B, d, rfl, h1, h2, h3⟩ := h
  exact ⟨A, c, B, d, rfl, own_below h1 hb, own_below h2 hb, h3⟩
theorem own_read {w : World} {base : Nat} {e : TypeId} {size : Nat} {A : Option Addr} {n c : Nat} {xs : List Value} (h : w.ownsRow base e size (.slice A n c) n xs) : Rd w A xs ∧ n ≤ c ∧ c ≤ maxLen ∧ ∀ ad, A = some ad → base ≤ ad.block := by
  obtain ⟨A', c', e1, r, l, m⟩ := own_rd h
  simp only [Value.slice.injEq, true_and] at e1
  obtain ⟨rfl, rfl⟩ := e1
  refine ⟨r, l, m, fun ad e => ?_⟩
  rcases h.2 with ⟨e2, _⟩ | ⟨g, cap, cur, e2, hg, _⟩
  · rw [e] at e2; cases e2
  · rw [e] at e2
    simp only [Value.slice.injEq, Option.some.injEq] at e2
    obtain ⟨rfl, _⟩ := e2
    exact hg
theorem CoOwn.at {w : World} {base : Nat} {v : Value} {x : La} (h : CoOwn w base v x) : CoAt w v x := by
  obtain ⟨A, c, B, d, rfl, h1, h2, h3⟩ := h
  obtain ⟨r1, l1, m1, _⟩ := own_read h1
  obtain ⟨r2, l2, m2, _⟩ := own_read h2
  exact ⟨A, c, B, d, rfl, r1, r2, l1, m1, l2, m2, h3⟩
/-- Contents with other numbers. -/
def num (o s a : Int) (x : La) : La := ⟨o, s, a, x.ov, x.adj, x.pre⟩
theorem LaAt.co {w : World} {o s a : Int} {ov : Bool} {A : Option Addr} {n c : Nat} {B : Option Addr} {m d : Nat} {x : La} (h : LaAt w (laV o s a ov A n c B m d) x) : CoAt w (coV ov A n c B m d) x := by
  obtain ⟨A9, c9, B9, d9, e9, h⟩ := h
  simp only [laV, Value.agg.injEq, Array.mk.injEq, List.cons.injEq, Value.slice.injEq, Value.bool.injEq, and_true] at e9
  obtain ⟨_, _, _, rfl, ⟨rfl, rfl, rfl⟩, rfl, rfl, rfl⟩ := e9
  exact ⟨_, _, _, _, rfl, h⟩
theorem CoAt.la {w : World} {ov : Bool} {A : Option Addr} {n c : Nat} {B : Option Addr} {m d : Nat} {x : La} (h : CoAt w (coV ov A n c B m d) x) (o s a : Int) : LaAt w (laV o s a ov A n c B m d) (num o s a x) := by
  obtain ⟨A9, c9, B9, d9, e9, h⟩ := h
  simp only [coV, Value.agg.injEq, Array.mk.injEq, List.cons.injEq, Value.slice.injEq, Value.bool.injEq, and_true] at e9
  obtain ⟨rfl, ⟨rfl, rfl, rfl⟩, rfl, rfl, rfl⟩ := e9
  exact ⟨_, _, _, _, rfl, h⟩
theorem CoAt.form {w : World} {v : Value} {x : La} (h : CoAt w v x) : ∃ A c B d, v = coV x.ov A x.adj.length c B x.pre.length d := by
  obtain ⟨A, c, B, d, hv, _⟩ := h
  exact ⟨A, c, B, d, hv⟩

/-- The originator in block g: x holds node, floor and age; whether there is a current advertisement. -/
def OrAt (w : World) (g : Nat) (x : La) (mk : Bool) : Prop := ∃ A c B d, Box w g [.bool x.ov, .slice A x.adj.length c, .slice B x.pre.length d, .int .i64 x.o, .int .i64 x.s, .bool mk, .int .i64 x.a] ∧
  Rd w A (adV x.adj) ∧ Rd w B (pfV x.pre) ∧ x.adj.length ≤ c ∧ c ≤ maxLen ∧ x.pre.length ≤ d ∧ d ≤ maxLen ∧ (∀ p ∈ x.pre, p.1 < 4294967296) ∧ (∀ ad, A = some ad → ad.block ≠ g) ∧ (∀ ad, B = some ad → ad.block ≠ g)
theorem OrAt.below {w w' : World} {g : Nat} {x : La} {mk : Bool} (h : OrAt w g x mk) (hb : Below w.heap.size w w') : OrAt w' g x mk := by
  obtain ⟨A, c, B, d, h0, h1, h2, h3⟩ := h
  exact ⟨A, c, B, d, h0.later hb, h1.below hb, h2.below hb, h3⟩
theorem OrAt.lt {w : World} {g : Nat} {x : La} {mk : Bool} (h : OrAt w g x mk) : g < w.heap.size := by
  obtain ⟨A, c, B, d, h0, _⟩ := h
  exact h0.lt (by simp)
theorem Rd.grown {w w' : World} {A : Option Addr} {xs : List Value} {g : Nat} (h : Rd w A xs) (hg : w.grownBy w' (some g)) (hf : ∀ ad, A = some ad → ad.block ≠ g) : Rd w' A xs := by
  intro hn
  obtain ⟨ad, e, hb⟩ := h.block hn
  obtain ⟨ad', e', hc⟩ := h hn
  rw [e] at e'
  injection e' with e'
  subst e'
  refine ⟨ad, e, fun j u hu => ?_⟩
  rw [World.cell?_of_block (hg.block _ (by rw [addr_add_block]; exact hb) (by rw [addr_add_block]; intro e2; injection e2 with e2; exact hf ad e e2))]
  exact hc j u hu

set_option maxRecDepth 100000 in
set_option maxHeartbeats 1600000 in
theorem coclone_any (w : World) (v : Value) (x : La) (h : CoAt w v x) (hb1 : x.adj.length ≤ 1000000) (hb2 : x.pre.length ≤ 1000000) :
    Calls Try.prog 32 #[v] w fun e w' => ∃ v', e = .returned v' ∧ CoOwn w' w.heap.size v' x ∧ Below w.heap.size w w' := by
  obtain ⟨A, c, B, d, rfl, rA, rB, h1, h2, h3, h4, hu⟩ := h
  have S := ((((St.start w).read rB).read rA).new' #[.bool x.ov, .slice A x.adj.length c, .slice B x.pre.length d] 49 w.heap.size _ rfl rfl).new' #[.bool false, .slice none 0 0, .slice none 0 0] 49 (w.heap.size + 1) _ (by simp) rfl
  have C1 := fun W (h : Rd W A (adV x.adj)) => clone_ad W A _ c x.adj h rfl hb1
  have C2 := fun W (h : Rd W B (pfV x.pre)) => clone_pf W B _ d x.pre h rfl hb2
  have hfin : ∀ W' A' c' B' d', W'.ownsRow w.heap.size 71 3 (.slice A' x.adj.length c') x.adj.length (adV x.adj) → W'.ownsRow w.heap.size 74 2 (.slice B' x.pre.length d') x.pre.length (pfV x.pre) → CoOwn W' w.heap.size (coV x.ov A' x.adj.length c' B' x.pre.length d') x := fun W' A' c' B' d' a b => ⟨A', c', B', d', rfl, a, b, hu⟩
  clear rA rB hu
  replace C1 := Lib.hid C1
  replace C2 := Lib.hid C2
  replace hfin := Lib.hid hfin
  generalize x.adj.length = n at *
  generalize x.pre.length = m at *
  generalize x.ov = ov at *
  have a0 := S.c 1 0 rfl rfl
  have a1 := S.c 1 1 rfl rfl
  have a2 := S.c 1 2 rfl rfl
  go_enter Try.func32, Try.ntmps32
  go_wp2_with fail
  (with_reducible refine (C1.out _ (S.r 0 rfl)).mono ?_)
  rintro e w1 ⟨A1, c1, rfl, o1, hb⟩
  clear a0 a1 a2
  replace S := S.call hb
  clear hb C1
  simp only [World.size_alloc] at o1
  have f1 := S.f 1 1 rfl rfl
  have a0 := S.c 1 0 rfl rfl
  have a1 := S.c 1 1 rfl rfl
  have a2 := S.c 1 2 rfl rfl
  have S2 := S.set 1 1 (.slice A1 n c1) rfl (by simp) (Nat.le_refl _) (by simp) _ rfl
  replace o1 := ownsRow_setCell_below (a := ⟨w.heap.size, 1, none⟩) o1 (by simp only; omega) (.slice A1 n c1)
  have hsz := S2.b.size
  have hlt := S2.lt 0 rfl (by simp)
  go_wp2_with fail
  generalize w1.setCell ⟨w.heap.size, 1, none⟩ (.slice A1 n c1) = w2 at *
  (with_reducible refine (C2.out _ (S2.r 1 rfl)).mono ?_)
  rintro e w3 ⟨B1, d1, rfl, o2, hb⟩
  clear a0 a1 a2
  clear f1 C2 S
  replace o1 := own_below o1 hb
  replace S2 := S2.call hb
  clear hb
  have f2 := S2.f 1 2 rfl rfl
  have e0 := S2.f 0 0 rfl rfl
  have e1 := S2.f 0 1 rfl rfl
  have e2 := S2.f 0 2 rfl rfl
  have a0 := S2.c 1 0 rfl rfl
  have a1 := S2.c 1 1 rfl rfl
  have a2 := S2.c 1 2 rfl rfl
  have b0 := S2.c 0 0 rfl rfl
  have b1 := S2.c 0 1 rfl rfl
  have b2 := S2.c 0 2 rfl rfl
  have S9 := (((S2.set 1 2 (.slice B1 m d1) rfl (by simp) (Nat.le_refl _) (by simp) _ rfl).set 0 0 (.bool ov) rfl (by simp) (by omega) (by simp) _ rfl).set 0 1 (.slice A1 n c1) rfl (by simp) (by omega) (by simp) _ rfl).set 0 2 (.slice B1 m d1) rfl (by simp) (by omega) (by simp) _ rfl
  have o3 := ownsRow_setCell_below (a := ⟨w.heap.size + 1, 2, none⟩) (ownsRow_setCell_below (a := ⟨w.heap.size + 1, 1, none⟩) (ownsRow_setCell_below (a := ⟨w.heap.size + 1, 0, none⟩) (ownsRow_setCell_below (a := ⟨w.heap.size, 2, none⟩) o1 (by simp only; omega) (.slice B1 m d1)) (by simp only; omega) (.bool ov)) (by simp only; omega) (.slice A1 n c1)) (by simp only; omega) (.slice B1 m d1)
  have o4 := ownsRow_setCell_below (a := ⟨w.heap.size + 1, 2, none⟩) (ownsRow_setCell_below (a := ⟨w.heap.size + 1, 1, none⟩) (ownsRow_setCell_below (a := ⟨w.heap.size + 1, 0, none⟩) (ownsRow_setCell_below (a := ⟨w.heap.size, 2, none⟩) o2 (by simp only; omega) (.slice B1 m d1)) (by simp only; omega) (.bool ov)) (by simp only; omega) (.slice A1 n c1)) (by simp only; omega) (.slice B1 m d1)
  have hf := hfin.out _ _ _ _ _ (own_mono o3 (by omega)) (own_mono o4 (by omega))
  have hb9 := S9.b
  go_wp2_with fail
  exact bodyPost_ret (v := coV ov A1 n c1 B1 m d1) (by simp [results, Try.results32, go_sem, b0, b1, b2]) rfl ⟨_, rfl, hf, hb9⟩


set_option maxRecDepth 100000 in
set_option maxHeartbeats 1600000 in
theorem coequal_any (w : World) (v u : Value) (x y : La) (hx : CoAt w v x) (hy : CoAt w u y) :
    Calls Try.prog 31 #[v, u] w fun e w' => e = .returned (.bool (conB x y)) ∧ Below w.heap.size w w' := by
  obtain ⟨A, c, B, d, rfl, rA, rB, h1, h2, h3, h4, _⟩ := hx
  obtain ⟨A', c', B', d', rfl, rA', rB', h1', h2', h3', h4', _⟩ := hy
  unfold maxLen at h2 h4 h2' h4'
  have S := ((((((St.start w).read rB').read rA').read rB).read rA).new' #[.bool x.ov, .slice A x.adj.length c, .slice B x.pre.length d] 49 w.heap.size _ rfl rfl).new' #[.bool y.ov, .slice A' y.adj.length c', .slice B' y.pre.length d'] 49 (w.heap.size + 1) _ (by simp) rfl
  have C1 := fun W (h : Rd W A (adV x.adj)) (h' : Rd W A' (adV y.adj)) => sleq_ad2 W A A' _ c _ c' x.adj y.adj h h' rfl rfl (by omega)
  have C2 := fun W (h : Rd W B (pfV x.pre)) (h' : Rd W B' (pfV y.pre)) => sleq_pf W B B' _ d _ d' x.pre y.pre h h' rfl rfl (by omega)
  clear rA rB rA' rB'
  unfold conB
  generalize decide (x.adj = y.adj) = r1 at *
  generalize decide (x.pre = y.pre) = r2 at *
  replace C1 := Lib.hid C1
  replace C2 := Lib.hid C2
  generalize x.adj.length = n at *
  generalize x.pre.length = m at *
  generalize y.adj.length = n' at *
  generalize y.pre.length = m' at *
  generalize x.ov = ov at *
  generalize y.ov = ov' at *
  have a0 := S.c 1 0 rfl rfl
  have a1 := S.c 1 1 rfl rfl
  have a2 := S.c 1 2 rfl rfl
  have b0 := S.c 0 0 rfl rfl
  have b1 := S.c 0 1 rfl rfl
  have b2 := S.c 0 2 rfl rfl
  rcases ho : (ov == ov') with _ | _
  · go_enter Try.func31, Try.ntmps31
    go_wp2_with fail
    go_ret
    exact ⟨rfl, S.b⟩
  · go_enter Try.func31, Try.ntmps31
    go_wp2_with fail
    (with_reducible refine (C1.out _ (S.r 0 rfl) (S.r 2 rfl)).mono ?_)
    rintro e w1 ⟨rfl, hb⟩
    clear a0 a1 a2
    clear b0 b1 b2
    replace S := S.call hb
    clear hb C1
    cases r1 with
    | false =>
      go_wp2_with fail
      go_ret
      exact ⟨rfl, S.b⟩
    | true =>
    have a0 := S.c 1 0 rfl rfl
    have a1 := S.c 1 1 rfl rfl
    have a2 := S.c 1 2 rfl rfl
    have b0 := S.c 0 0 rfl rfl
    have b1 := S.c 0 1 rfl rfl
    have b2 := S.c 0 2 rfl rfl
    go_wp2_with fail
    (with_reducible refine (C2.out _ (S.r 1 rfl) (S.r 3 rfl)).mono ?_)
    rintro e w2 ⟨rfl, hb⟩
    replace S := S.call hb
    cases r2 with
    | false =>
      go_wp2_with fail
      go_ret
      exact ⟨rfl, S.b⟩
    | true =>
      go_wp2_with fail
      go_ret
      exact ⟨rfl, S.b⟩

def AdvPost (w : World) (x : La) (e : Ending) (w' : World) : Prop :=
  ∃ v, e = .returned v ∧ LaOwn w' w.heap.size v x ∧ Below w.heap.size w w'
set_option maxRecDepth 100000 in
set_option maxHeartbeats 1600000 in
theorem advert_any (w : World) (g : Nat) (v : Value) (x : La) (node s a : Int) (hn : w.cell? ⟨g, 3, none⟩ = some (.int .i64 node)) (h : CoAt w v x) (hb1 : x.adj.length ≤ 1000000) (hb2 : x.pre.length ≤ 1000000) :
    Calls Try.prog 29 #[.pointer (some ⟨g, 0, none⟩), v, .int .i64 s, .int .i64 a] w (AdvPost w (num node s a x)) := by
  obtain ⟨A, c, B, d, rfl⟩ := h.form
  have S := ((St.start w).new' #[.bool x.ov, .slice A x.adj.length c, .slice B x.pre.length d] 49 w.heap.size _ rfl rfl).new' #[.int .i64 0, .int .i64 0, .int .i64 0, .bool false, .slice none 0 0, .slice none 0 0] 32 (w.heap.size + 1) _ (by simp) rfl
  have C := fun W hb => coclone_any W _ x (h.below hb) hb1 hb2
  replace C := Lib.hid C
  replace hn : Hid (∀ W, Below w.heap.size w W → W.cell? ⟨g, 3, none⟩ = some (.int .i64 node)) := fun W hb => cell_later hb hn
  have a0 := S.c 1 0 rfl rfl
  have a1 := S.c 1 1 rfl rfl
  have a2 := S.c 1 2 rfl rfl
  go_enter Try.func29, Try.ntmps29
  go_wp2_with fail
  (with_reducible refine (C.out _ S.b).mono ?_)
  rintro e w1 ⟨v1, rfl, hown, hb⟩
  clear a0 a1 a2
  have hlt := S.lt 0 rfl (by simp)
  replace S := S.call hb
  have hsz := S.lt 0 rfl (by simp)
  obtain ⟨A1, c1, B1, d1, rfl, o1, o2, hu⟩ := hown
  clear hb C h
  have S2 := ((S.set 1 0 (.bool x.ov) rfl (by simp) (Nat.le_refl _) (by simp) _ rfl).set 1 1 (.slice A1 x.adj.length c1) rfl (by simp) (Nat.le_refl _) (by simp) _ rfl).set 1 2 (.slice B1 x.pre.length d1) rfl (by simp) (Nat.le_refl _) (by simp) _ rfl
  have p1 := ownsRow_setCell_below (a := ⟨w.heap.size, 2, none⟩) (ownsRow_setCell_below (a := ⟨w.heap.size, 1, none⟩) (ownsRow_setCell_below (a := ⟨w.heap.size, 0, none⟩) o1 (by simp only [World.size_alloc]; omega) (.bool x.ov)) (by simp only [World.size_alloc]; omega) (.slice A1 x.adj.length c1)) (by simp only [World.size_alloc]; omega) (.slice B1 x.pre.length d1)
  have p2 := ownsRow_setCell_below (a := ⟨w.heap.size, 2, none⟩) (ownsRow_setCell_below (a := ⟨w.heap.size, 1, none⟩) (ownsRow_setCell_below (a := ⟨w.heap.size, 0, none⟩) o2 (by simp only [World.size_alloc]; omega) (.bool x.ov)) (by simp only [World.size_alloc]; omega) (.slice A1 x.adj.length c1)) (by simp only [World.size_alloc]; omega) (.slice B1 x.pre.length d1)
  simp only [World.size_alloc] at p1 p2 hlt
  have a0 := S.c 1 0 rfl rfl
  have a1 := S.c 1 1 rfl rfl
  have a2 := S.c 1 2 rfl rfl
  have f0 := S.f 1 0 rfl rfl
  have f1 := S.f 1 1 rfl rfl
  have f2 := S.f 1 2 rfl rfl
  go_upto_region 2 with fail
  clear a0 a1 a2
  clear f0 f1 f2
  clear o1 o2 S
  generalize World.setCell (World.setCell (World.setCell _ _ _) _ _) _ _ = w2 at *
  have hn2 := hn.out _ S2.b
  clear hn
  have a0 := S2.c 1 0 rfl rfl
  have a1 := S2.c 1 1 rfl rfl
  have a2 := S2.c 1 2 rfl rfl
  have b0 := S2.c 0 0 rfl rfl
  have b1 := S2.c 0 1 rfl rfl
  have b2 := S2.c 0 2 rfl rfl
  have b3 := S2.c 0 3 rfl rfl
  have b4 := S2.c 0 4 rfl rfl
  have b5 := S2.c 0 5 rfl rfl
  have f0 := S2.f 0 0 rfl rfl
  have f1 := S2.f 0 1 rfl rfl
  have f2 := S2.f 0 2 rfl rfl
  have f3 := S2.f 0 3 rfl rfl
  have f4 := S2.f 0 4 rfl rfl
  have f5 := S2.f 0 5 rfl rfl
  have hfin : Hid (AdvPost w (num node s a x) (.returned (laV node s a x.ov A1 x.adj.length c1 B1 x.pre.length d1)) ((((((w2.drew.setCell ⟨w.heap.size + 1, 0, none⟩ (.int .i64 node)).setCell ⟨w.heap.size + 1, 1, none⟩ (.int .i64 s)).setCell ⟨w.heap.size + 1, 2, none⟩ (.int .i64 a)).setCell ⟨w.heap.size + 1, 3, none⟩ (.bool x.ov)).setCell ⟨w.heap.size + 1, 4, none⟩ (.slice A1 x.adj.length c1)).setCell ⟨w.heap.size + 1, 5, none⟩ (.slice B1 x.pre.length d1))) := by
    have S9 := S2.drew.set6 node s a x.ov (.slice A1 x.adj.length c1) (.slice B1 x.pre.length d1) (by omega) (by simp)
    have q1 := own_set6 (w := w2.drew) p1 (g := w.heap.size + 1) (by omega) (.int .i64 node) (.int .i64 s) (.int .i64 a) (.bool x.ov) (.slice A1 x.adj.length c1) (.slice B1 x.pre.length d1)
    have q2 := own_set6 (w := w2.drew) p2 (g := w.heap.size + 1) (by omega) (.int .i64 node) (.int .i64 s) (.int .i64 a) (.bool x.ov) (.slice A1 x.adj.length c1) (.slice B1 x.pre.length d1)
    exact ⟨_, rfl, ⟨_, _, _, _, rfl, own_mono q1 (by omega), own_mono q2 (by omega), hu⟩, S9.b⟩
  clear p1 p2
  go_still_tail 13, (by kernel_rfl)
  change wpList _ _ _ _ _ w2.drew
  clear a0 a1 a2
  clear b0 b1 b2 b3 b4 b5
  clear f0 f1 f2 f3 f4 f5
  replace S2 := S2.drew
  have b0 := S2.c 0 0 rfl rfl
  have b1 := S2.c 0 1 rfl rfl
  have b2 := S2.c 0 2 rfl rfl
  have b3 := S2.c 0 3 rfl rfl
  have b4 := S2.c 0 4 rfl rfl
  have b5 := S2.c 0 5 rfl rfl
  have f0 := S2.f 0 0 rfl rfl
  have f1 := S2.f 0 1 rfl rfl
  have f2 := S2.f 0 2 rfl rfl
  have f3 := S2.f 0 3 rfl rfl
  have f4 := S2.f 0 4 rfl rfl
  have f5 := S2.f 0 5 rfl rfl
  clear hn2
  generalize w2.drew = w3 at *
  go_wp2_with fail
  exact bodyPost_ret (v := laV node s a x.ov A1 x.adj.length c1 B1 x.pre.length d1) (by simp [results, Try.results29, go_sem, b0, b1, b2, b3, b4, b5]) rfl hfin.out

end Go.Proofs.Ytfpoghhjpfkbaaa
