/-
  The texts DecR, Bcmp, New, NewR, LaC, Clone, one after the other.
-/
import Derived.Test.YtnfldccaeibcpaaDec
import Derived.Test.YtnfldccaeibcpaaEncR
import Derived.Test.YtnfldccaeibcpaaValR
import Derived.Test.YtnfldccaeibcpaaCodRD
import Derived.Deep.RegionHeld3
import Derived.Deep.RegionLaw
import Derived.IntWalk
import Derived.Deep.DeepCutAuto
import Derived.Deep.CutBlock
import Derived.Test.YtnfldccaeibcpaaBytes
import Derived.Lib.BytesEntry
import Derived.Test.YtnfldccaeibcpaaSame
import Derived.Test.YtnfldccaeibcpaaSmR
import Derived.WalkLawsBesides
import Derived.Test.YtnfldccaeibcpaaPurge
import Derived.Lib.QuietBelow
import Derived.Test.YtnfldccaeibcpaaTake
import Derived.Test.YtnfldccaeibcpaaSlEq
namespace Go.Proofs.Ytnfldccaeibcpaa
set_option linter.unusedVariables false
open Go.RowKit Go.Sort

def AccX (W0 w : World) (x : La) : Prop := ∃ vA vB, AccS W0 w x vA vB
theorem rc_block {w : World} {base : Nat} {e : TypeId} {r : Rc} (h : RcOwn w base e r) : ∀ ad, r.A = some ad → ad.block < w.heap.size := by
  intro ad e2
  rcases h.2 with ⟨e3, _⟩ | ⟨g', cap, cur, e3, _, hh, _⟩
  · rw [e2] at e3; cases e3
  · rw [e2] at e3
    simp only [Value.slice.injEq, Option.some.injEq] at e3
    obtain ⟨rfl, _⟩ := e3
    exact (Array.getElem?_eq_some_iff.1 hh).1
theorem own_slice {w : World} {base : Nat} {e : TypeId} {size : Nat} {A : Option Addr} {n c : Nat} {xs : List Value} (h : w.ownsRow base e size (.slice A n c) n xs) : Rd w A xs := by
  obtain ⟨A', c', e, r, _⟩ := own_rd h
  simp only [Value.slice.injEq, true_and] at e
  obtain ⟨rfl, rfl⟩ := e
  exact r
theorem uintB_lt2 (bs : List UInt8) (h : bs.length ≤ 4) : uintB bs < 4294967296 := by
  have := uintB_lt bs
  have := Nat.pow_le_pow_right (n := 256) (by omega) h
  omega
theorem chk_f {bs : List UInt8} : chk bs = (fl1 bs == 0 && fl2 bs == 0) := rfl

end Go.Proofs.Ytnfldccaeibcpaa

namespace Go.Proofs.Ytnfldccaeibcpaa
set_option linter.unusedVariables false
open Go.RowKit

theorem intsOf (bs : List UInt8) : Lib.bytesOf (bs.map fun b => (b.toNat : Int)) = bs := by
  induction bs with
  | nil => rfl
  | cons b bs ih =>
    simp only [Lib.bytesOf, List.map_cons, List.map_map] at ih ⊢
    rw [ih]
    simp
theorem run_bytesOf {P : Program} (w : World) (A : Option Addr) (n c : Nat) (bs : List UInt8) (h : Bs w A bs) (hn : bs.length = n) : (Extern.Bytes.bytesOf (.slice A n c)).run P w = .ok ⟨bs.toArray⟩ w := by
  subst hn
  rcases A with _ | ad
  · have := Rd.nil_len h
    have e : bs = [] := by simpa using this
    subst e
    rfl
  · have hl := Lib.run_loadBytesX (P := P) w (bs.map fun b => (b.toNat : Int)) ad .empty (fun j x hj => by
      rw [List.getElem?_map] at hj
      obtain ⟨b, hb, rfl⟩ := Option.map_eq_some_iff.1 hj
      obtain ⟨ad', e, hc⟩ := h (by rw [List.length_map]; have := (List.getElem?_eq_some_iff.1 hb).1; omega)
      injection e with e
      subst e
      exact hc j _ (by rw [List.getElem?_map, hb]; rfl))
    rw [List.length_map, intsOf] at hl
    show (Extern.Bytes.loadBytes ad bs.length .empty).run P w = _
    rw [hl]
    congr 1
    apply ByteArray.ext
    show (#[] : Array UInt8) ++ bs.toArray = bs.toArray
    simp
theorem run_compareSlice {P : Program} (w : World) (A B : Option Addr) (n c m d : Nat) (xs ys : List UInt8) (hx : Bs w A xs) (hn : xs.length = n) (hy : Bs w B ys) (hm : ys.length = m) :
    (Extern.BytealgCompare.compare #[.slice A n c, .slice B m d]).run P w = .ok (.int .i64 (Lib.compareBytes xs ys)) w := by
  change Sem.run P (do pure (goInt (Extern.BytealgCompare.cmp (← Extern.Bytes.bytesOf (.slice A n c)) (← Extern.Bytes.bytesOf (.slice B m d))))) w = _
  simp only [Sem.run_bind, Sem.run_pure, run_bytesOf w A n c xs hx hn, run_bytesOf w B m d ys hy hm, Result.andThen]
  rw [Lib.cmp_eq]
  rfl

set_option maxHeartbeats 1000000 in
set_option maxRecDepth 100000 in
theorem bcompare_any (w : World) (A B : Option Addr) (n c m d : Nat) (xs ys : List UInt8) (hx : Bs w A xs) (hn : xs.length = n) (hy : Bs w B ys) (hm : ys.length = m) :
    Calls Try.prog 54 #[.slice A n c, .slice B m d] w fun e w' => e = .returned (.int .i64 (Lib.compareBytes xs ys)) ∧ w = w' := by
  have R := run_compareSlice (P := Try.prog) w A B n c m d xs ys hx hn hy hm
  go_enter Try.func54, Try.ntmps54
  go_wp2
  rw [run_callFunc_extern Try.func71 (by kernel_rfl) (by kernel_rfl) (by kernel_rfl) (e := Extern.BytealgCompare.compare) (by kernel_rfl), R]
  simp only [Result.andThen]
  rw [Oper.upon_value]
  go_wp2
  go_ret
  exact ⟨rfl, rfl⟩

end Go.Proofs.Ytnfldccaeibcpaa

namespace Go.Proofs.Ytnfldccaeibcpaa
set_option linter.unusedVariables false
open Go.RowKit

theorem own_slice' {w : World} {base : Nat} {e : TypeId} {size : Nat} {A : Option Addr} {n c : Nat} {xs : List Value} (h : w.ownsRow base e size (.slice A n c) n xs) : Rd w A xs := by
  obtain ⟨A', c', e, r, _⟩ := own_rd h
  simp only [Value.slice.injEq, true_and] at e
  obtain ⟨rfl, rfl⟩ := e
  exact r
def age0 (x : La) : La := { x with a := 0 }
noncomputable def newI (x y : La) : Int :=
  if vB x = true ∧ vB y = true then
    if x.s = y.s then if (x.a == 3600) = (y.a == 3600) then Lib.compareBytes (laEnc (age0 x)) (laEnc (age0 y)) else if (x.a == 3600) = true then 1 else -1
    else cmpI x.s y.s
  else 0
theorem age0_valid {x : La} (h : LaValid x) : LaValid (age0 x) := by
  obtain ⟨h1, h2, h3, h4, h5, h6, h7, h8⟩ := h
  exact ⟨h1, h2, ⟨by simp [age0], by simp [age0]⟩, h4, h5, fun e => by simp [age0] at e, h7, h8⟩

set_option maxRecDepth 100000 in
set_option maxHeartbeats 6400000 in
theorem lnewer_any (w : World) (v u : Value) (x y : La) (hx : LaAt w v x) (hy : LaAt w u y) : Calls Try.prog 35 #[v, u] w fun e w' => e = .returned (.int .i64 (newI x y)) ∧ Below w.heap.size w w' := by
  obtain ⟨A, c, B, d, rfl, rA, rB, h1, h2, h3, h4, hu⟩ := hx
  obtain ⟨A', c', B', d', rfl, rA', rB', h1', h2', h3', h4', hu'⟩ := hy
  unfold maxLen at h2 h4 h2' h4'
  have S := ((((((St.start w).read rB').read rA').read rB).read rA).new' #[.int .i64 x.o, .int .i64 x.s, .int .i64 x.a, .bool x.ov, .slice A x.adj.length c, .slice B x.pre.length d] 45 w.heap.size _ rfl rfl).new' #[.int .i64 y.o, .int .i64 y.s, .int .i64 y.a, .bool y.ov, .slice A' y.adj.length c', .slice B' y.pre.length d'] 45 (w.heap.size + 1) _ (by simp) rfl
  have VX := fun W (hb : Below w.heap.size w W) => valid_any x.o x.s x.a x.ov x.adj x.pre A _ c B _ d W rfl rfl (rA.below hb) (rB.below hb) hu
  have VY := fun W (hb : Below w.heap.size w W) => valid_any y.o y.s y.a y.ov y.adj y.pre A' _ c' B' _ d' W rfl rfl (rA'.below hb) (rB'.below hb) hu'
  rw [show (⟨x.o, x.s, x.a, x.ov, x.adj, x.pre⟩ : La) = x from rfl] at VX
  rw [show (⟨y.o, y.s, y.a, y.ov, y.adj, y.pre⟩ : La) = y from rfl] at VY
  have EX := fun W (hb : Below w.heap.size w W) => lencode_any x.o x.s 0 x.ov x.adj x.pre A _ c B _ d W rfl rfl (rA.below hb) (rB.below hb) hu
  have EY := fun W (hb : Below w.heap.size w W) => lencode_any y.o y.s 0 y.ov y.adj y.pre A' _ c' B' _ d' W rfl rfl (rA'.below hb) (rB'.below hb) hu'
  rw [show (⟨x.o, x.s, 0, x.ov, x.adj, x.pre⟩ : La) = age0 x from rfl] at EX
  rw [show (⟨y.o, y.s, 0, y.ov, y.adj, y.pre⟩ : La) = age0 y from rfl] at EY
  have c0 := S.c 1 0 rfl rfl
  have c1 := S.c 1 1 rfl rfl
  have c2 := S.c 1 2 rfl rfl
  have c3 := S.c 1 3 rfl rfl
  have c4 := S.c 1 4 rfl rfl
  have c5 := S.c 1 5 rfl rfl
  clear rA rB rA' rB'
  have hlx : vB x = true → lencB (age0 x) = laEnc (age0 x) := fun h => by unfold lencB; rw [vB_t (age0_valid (vB_iff.1 h))]; rfl
  have hly : vB y = true → lencB (age0 y) = laEnc (age0 y) := fun h => by unfold lencB; rw [vB_t (age0_valid (vB_iff.1 h))]; rfl
  unfold newI
  generalize laEnc (age0 x) = ex at *
  generalize laEnc (age0 y) = ey at *
  generalize lencE (age0 x) = ex0 at *
  generalize lencE (age0 y) = ey0 at *
  generalize lencB (age0 x) = lx at *
  generalize lencB (age0 y) = ly at *
  generalize hbx : vB x = bx at *
  generalize hby : vB y = by' at *
  clear hbx hby
  generalize x.adj.length = n at *
  generalize x.pre.length = m at *
  generalize y.adj.length = n' at *
  generalize y.pre.length = m' at *
  obtain ⟨o, s, a, ov, adj, pre⟩ := x
  obtain ⟨o', s', a', ov', adj', pre'⟩ := y
  simp only at *
  have VX1 := VX _ S.b
  replace VX1 := Lib.hid VX1
  replace VX := Lib.hid VX
  replace VY := Lib.hid VY
  replace EX := Lib.hid EX
  replace EY := Lib.hid EY
  replace hlx := Lib.hid hlx
  replace hly := Lib.hid hly
  clear hu hu'
  cases bx with
  | false =>
    rw [if_neg (by simp)]
    go_enter Try.func35, Try.ntmps35
    go_wp2_with fail
    (with_reducible refine VX1.out.mono ?_)
    rintro e w2 ⟨rfl, hb⟩
    replace S := S.call hb
    clear c0 c1 c2 c3 c4 c5 VX1
    go_wp2_with fail
    go_ret
    exact ⟨rfl, S.b⟩
  | true =>
  obtain ⟨r, hr⟩ : ∃ r : Int, (if true = true ∧ by' = true then (if s = s' then (if (a == 3600) = (a' == 3600) then Lib.compareBytes ex ey else if (a == 3600) = true then (1 : Int) else -1) else cmpI s s') else 0) = r := ⟨_, rfl⟩
  rw [hr]
  replace hr := Lib.hid hr
  go_enter Try.func35, Try.ntmps35
  go_wp2_with fail
  (with_reducible refine VX1.out.mono ?_)
  rintro e w2 ⟨rfl, hb⟩
  replace S := S.call hb
  clear c0 c1 c2 c3 c4 c5 VX1 hb
  have d0 := S.c 0 0 rfl rfl
  have d1 := S.c 0 1 rfl rfl
  have d2 := S.c 0 2 rfl rfl
  have d3 := S.c 0 3 rfl rfl
  have d4 := S.c 0 4 rfl rfl
  have d5 := S.c 0 5 rfl rfl
  have VY1 := VY.out _ S.b
  replace VY1 := Lib.hid VY1
  go_wp2_with fail
  (with_reducible refine VY1.out.mono ?_)
  rintro e w3 ⟨rfl, hb⟩
  replace S := S.call hb
  clear d0 d1 d2 d3 d4 d5 VY1 hb VX VY
  cases by' with
  | false =>
    obtain rfl : 0 = r := by have := hr.out; rwa [if_neg (by simp)] at this
    go_wp2_with fail
    go_ret
    exact ⟨rfl, S.b⟩
  | true =>
  have hr2 := hr.out
  rw [if_pos (by simp)] at hr2
  clear hr
  have c1 := S.c 1 1 rfl rfl
  have d1 := S.c 0 1 rfl rfl
  by_cases hs : s = s'
  rotate_left
  · rw [if_neg hs] at hr2
    replace hr2 := Lib.hid hr2
    have e2 : (s != s') = true := by simpa using hs
    clear hs
    go_wp2_with fail
    (with_reducible refine (cmpint_any _ _ _).mono ?_)
    rintro e w4 ⟨rfl, rfl⟩
    go_wp2_with fail
    go_ret
    exact ⟨ret_int hr2.out, S.b⟩
  subst hs
  rw [if_pos rfl] at hr2
  obtain ⟨pa, hpa⟩ : ∃ z, (a == 3600) = z := ⟨_, rfl⟩
  obtain ⟨pb, hpb⟩ : ∃ z, (a' == 3600) = z := ⟨_, rfl⟩
  rw [hpa, hpb] at hr2
  have c2 := S.c 1 2 rfl rfl
  have d2 := S.c 0 2 rfl rfl
  by_cases hp : pa = pb
  rotate_left
  · rw [if_neg hp] at hr2
    cases pa
    all_goals
      cases pb
      all_goals
        first
        | exact absurd rfl hp
        | skip
    · obtain rfl : -1 = r := by simpa using hr2
      clear hp hr2
      go_wp2_with fail
      go_quiet (fail)
      go_wp2_with fail
      go_ret
      exact ⟨rfl, below_drewN S.b nq⟩
    · obtain rfl : 1 = r := by simpa using hr2
      clear hp hr2
      go_wp2_with fail
      go_quiet (fail)
      go_wp2_with fail
      go_ret
      exact ⟨rfl, below_drewN S.b nq⟩
  subst hp
  rw [if_pos rfl] at hr2
  replace hr2 := Lib.hid hr2
  go_wp2_with fail
  go_quiet (fail)
  replace S := S.drewN nq
  generalize w3.drewN nq = w4 at *
  clear c1 d1 c2 d2 hpa hpb
  obtain rfl := hlx.out trivial
  obtain rfl := hly.out trivial
  clear hlx hly
  have c0 := S.c 1 0 rfl rfl
  have c1 := S.c 1 1 rfl rfl
  have c2 := S.c 1 2 rfl rfl
  have c3 := S.c 1 3 rfl rfl
  have c4 := S.c 1 4 rfl rfl
  have c5 := S.c 1 5 rfl rfl
  have d2 := S.c 0 2 rfl rfl
  have f2 := S.f 1 2 rfl rfl
  have g2 := S.f 0 2 rfl rfl
  have S2 := (S.set 1 2 (.int .i64 0) (g := w.heap.size) rfl (by simp) (Nat.le_refl _) (by simp) _ rfl).set 0 2 (.int .i64 0) (g := w.heap.size + 1) rfl (by simp) (by omega) (by simp) _ rfl
  have EX1 := EX.out _ S2.b
  replace EX1 := Lib.hid EX1
  go_wp2_with fail
  (with_reducible refine EX1.out.mono ?_)
  rintro e w5 ⟨v5, rfl, hown5, hb⟩
  replace S2 := S2.call hb
  clear c0 c1 c2 c3 c4 c5 d2 f2 g2 EX1 hb S
  obtain ⟨A5, a5, rfl, _, _, _⟩ := own_rd hown5
  have d0 := S2.c 0 0 rfl rfl
  have d1 := S2.c 0 1 rfl rfl
  have d2 := S2.c 0 2 rfl rfl
  have d3 := S2.c 0 3 rfl rfl
  have d4 := S2.c 0 4 rfl rfl
  have d5 := S2.c 0 5 rfl rfl
  have EY1 := EY.out _ S2.b
  replace EY1 := Lib.hid EY1
  go_wp2_with fail
  (with_reducible refine EY1.out.mono ?_)
  rintro e w6 ⟨v6, rfl, hown6, hb⟩
  replace S2 := S2.call hb
  have hown5 := own_below hown5 hb
  clear d0 d1 d2 d3 d4 d5 EY1 hb EX EY
  obtain ⟨A6, a6, rfl, _, _, _⟩ := own_rd hown6
  have BC := bcompare_any w6 A5 A6 _ a5 _ a6 lx ly (own_slice' hown5) rfl (own_slice' hown6) rfl
  replace BC := Lib.hid BC
  go_wp2_with fail
  (with_reducible refine BC.out.mono ?_)
  rintro e w7 ⟨rfl, rfl⟩
  go_wp2_with fail
  go_ret
  exact ⟨ret_int hr2.out, S2.b⟩

end Go.Proofs.Ytnfldccaeibcpaa

namespace Go.Proofs.Ytnfldccaeibcpaa
set_option linter.unusedVariables false
open Go.RowKit

theorem less_cmp : ∀ (a b : List UInt8), Op.bytesLess a b = (Lib.compareBytes a b == -1)
  | [], [] => rfl
  | [], _ :: _ => rfl
  | _ :: _, [] => rfl
  | x :: a, y :: b => by
    unfold Op.bytesLess Lib.compareBytes
    by_cases h1 : x < y
    · simp [h1]
    · by_cases h2 : y < x
      · have : x ≠ y := fun e => by subst e; exact absurd h2 (UInt8.lt_irrefl x)
        simp [h1, h2, this]
      · have e : x = y := UInt8.le_antisymm (UInt8.not_lt.1 h2) (UInt8.not_lt.1 h1)
        subst e
        simp [less_cmp a b]
theorem cmp_eq0 : ∀ (a b : List UInt8), Lib.compareBytes a b = 0 ↔ a = b
  | [], [] => by simp [Lib.compareBytes]
  | [], _ :: _ => by simp [Lib.compareBytes]
  | _ :: _, [] => by simp [Lib.compareBytes]
  | x :: a, y :: b => by
    unfold Lib.compareBytes
    by_cases h1 : x < y
    · have : x ≠ y := fun e => by subst e; exact absurd h1 (UInt8.lt_irrefl x)
      simp [h1, this]
    · by_cases h2 : y < x
      · have : x ≠ y := fun e => by subst e; exact absurd h2 (UInt8.lt_irrefl x)
        simp [h1, h2, this]
      · have e : x = y := UInt8.le_antisymm (UInt8.not_lt.1 h2) (UInt8.not_lt.1 h1)
        subst e
        simp [cmp_eq0 a b]
theorem cmp_bd : ∀ (a b : List UInt8), Lib.compareBytes a b = -1 ∨ Lib.compareBytes a b = 0 ∨ Lib.compareBytes a b = 1
  | [], [] => by simp [Lib.compareBytes]
  | [], _ :: _ => by simp [Lib.compareBytes]
  | _ :: _, [] => by simp [Lib.compareBytes]
  | x :: a, y :: b => by
    unfold Lib.compareBytes
    have := cmp_bd a b
    split
    · simp
    · split
      · simp
      · exact this

set_option maxRecDepth 100000 in
set_option maxHeartbeats 6400000 in
theorem rnewer_any (w : World) (v u : Value) (x y : La) (hx : LaAt w v x) (hy : LaAt w u y) : Calls Try.prog 37 #[v, u] w fun e w' => e = .returned (.int .i64 (newI x y)) ∧ Below w.heap.size w w' := by
  obtain ⟨A, c, B, d, rfl, rA, rB, h1, h2, h3, h4, hu⟩ := hx
  obtain ⟨A', c', B', d', rfl, rA', rB', h1', h2', h3', h4', hu'⟩ := hy
  unfold maxLen at h2 h4 h2' h4'
  have S := ((((((St.start w).read rB').read rA').read rB).read rA).new' #[.int .i64 x.o, .int .i64 x.s, .int .i64 x.a, .bool x.ov, .slice A x.adj.length c, .slice B x.pre.length d] 45 w.heap.size _ rfl rfl).new' #[.int .i64 y.o, .int .i64 y.s, .int .i64 y.a, .bool y.ov, .slice A' y.adj.length c', .slice B' y.pre.length d'] 45 (w.heap.size + 1) _ (by simp) rfl
  have VX := fun W (hb : Below w.heap.size w W) => rvalid_any x.o x.s x.a x.ov x.adj x.pre A _ c B _ d W rfl rfl (by omega) (by omega) (rA.below hb) (rB.below hb) hu
  have VY := fun W (hb : Below w.heap.size w W) => rvalid_any y.o y.s y.a y.ov y.adj y.pre A' _ c' B' _ d' W rfl rfl (by omega) (by omega) (rA'.below hb) (rB'.below hb) hu'
  rw [show (⟨x.o, x.s, x.a, x.ov, x.adj, x.pre⟩ : La) = x from rfl] at VX
  rw [show (⟨y.o, y.s, y.a, y.ov, y.adj, y.pre⟩ : La) = y from rfl] at VY
  have EX := fun (h : LaValid x) W (hb : Below w.heap.size w W) => rencode_any x.o x.s 0 x.ov x.adj x.pre A _ c B _ d W rfl rfl (rA.below hb) (rB.below hb) hu (age0_valid h)
  have EY := fun (h : LaValid y) W (hb : Below w.heap.size w W) => rencode_any y.o y.s 0 y.ov y.adj y.pre A' _ c' B' _ d' W rfl rfl (rA'.below hb) (rB'.below hb) hu' (age0_valid h)
  rw [show (⟨x.o, x.s, 0, x.ov, x.adj, x.pre⟩ : La) = age0 x from rfl] at EX
  rw [show (⟨y.o, y.s, 0, y.ov, y.adj, y.pre⟩ : La) = age0 y from rfl] at EY
  have c0 := S.c 1 0 rfl rfl
  have c1 := S.c 1 1 rfl rfl
  have c2 := S.c 1 2 rfl rfl
  have c3 := S.c 1 3 rfl rfl
  have c4 := S.c 1 4 rfl rfl
  have c5 := S.c 1 5 rfl rfl
  clear rA rB rA' rB'
  have hsb : vB x = true → vB y = true → (1 ≤ x.s ∧ x.s ≤ 1073741824) ∧ 1 ≤ y.s ∧ y.s ≤ 1073741824 := fun h1 h2 => ⟨(vB_iff.1 h1).2.1, (vB_iff.1 h2).2.1⟩
  unfold newI
  generalize laEnc (age0 x) = lx at *
  generalize laEnc (age0 y) = ly at *
  generalize hbx : vB x = bx at *
  generalize hby : vB y = by' at *
  replace EX : bx = true → _ := fun h => EX (vB_iff.1 (hbx.trans h))
  replace EY : by' = true → _ := fun h => EY (vB_iff.1 (hby.trans h))
  clear hbx hby
  generalize x.adj.length = n at *
  generalize x.pre.length = m at *
  generalize y.adj.length = n' at *
  generalize y.pre.length = m' at *
  obtain ⟨o, s, a, ov, adj, pre⟩ := x
  obtain ⟨o', s', a', ov', adj', pre'⟩ := y
  simp only at *
  have VX1 := VX _ S.b
  replace VX1 := Lib.hid VX1
  replace VX := Lib.hid VX
  replace VY := Lib.hid VY
  replace EX := Lib.hid EX
  replace EY := Lib.hid EY
  replace hsb := Lib.hid hsb
  clear hu hu'
  cases bx with
  | false =>
    rw [if_neg (by simp)]
    go_enter Try.func37, Try.ntmps37
    go_wp2_with fail
    (with_reducible refine VX1.out.mono ?_)
    rintro e w2 ⟨rfl, hb⟩
    replace S := S.call hb
    clear c0 c1 c2 c3 c4 c5 VX1
    go_wp2_with fail
    go_ret
    exact ⟨rfl, S.b⟩
  | true =>
  obtain ⟨r, hr⟩ : ∃ r : Int, (if true = true ∧ by' = true then (if s = s' then (if (a == 3600) = (a' == 3600) then Lib.compareBytes lx ly else if (a == 3600) = true then (1 : Int) else -1) else cmpI s s') else 0) = r := ⟨_, rfl⟩
  rw [hr]
  replace hr := Lib.hid hr
  replace EX := EX.out rfl
  replace EX := Lib.hid EX
  go_enter Try.func37, Try.ntmps37
  go_wp2_with fail
  (with_reducible refine VX1.out.mono ?_)
  rintro e w2 ⟨rfl, hb⟩
  replace S := S.call hb
  clear c0 c1 c2 c3 c4 c5 VX1 hb
  have d0 := S.c 0 0 rfl rfl
  have d1 := S.c 0 1 rfl rfl
  have d2 := S.c 0 2 rfl rfl
  have d3 := S.c 0 3 rfl rfl
  have d4 := S.c 0 4 rfl rfl
  have d5 := S.c 0 5 rfl rfl
  have VY1 := VY.out _ S.b
  replace VY1 := Lib.hid VY1
  go_wp2_with fail
  (with_reducible refine VY1.out.mono ?_)
  rintro e w3 ⟨rfl, hb⟩
  replace S := S.call hb
  clear d0 d1 d2 d3 d4 d5 VY1 hb VX VY
  cases by' with
  | false =>
    obtain rfl : 0 = r := by have := hr.out; rwa [if_neg (by simp)] at this
    go_wp2_with fail
    go_ret
    exact ⟨rfl, S.b⟩
  | true =>
  have hr2 := hr.out
  rw [if_pos (by simp)] at hr2
  replace EY := EY.out (by first | rfl | trivial)
  replace EY := Lib.hid EY
  obtain ⟨⟨u1, u2⟩, u3, u4⟩ := hsb.out (by first | rfl | trivial) (by first | rfl | trivial)
  clear hr hsb
  have c1 := S.c 1 1 rfl rfl
  have d1 := S.c 0 1 rfl rfl
  by_cases hs : s = s'
  rotate_left
  · rw [if_neg hs] at hr2
    have hr3 : Hid (cmpI (s - s') 0 = r) := by
      show _ = _
      rw [← hr2]; unfold cmpI; split <;> split <;> (first | rfl | omega) <;> split <;> (first | rfl | omega)
    clear hr2
    have e2 : (s != s') = true := by simpa using hs
    clear hs
    go_wp2_with fail
    (with_reducible refine (sign_any _ _).mono ?_)
    rintro e w4 ⟨rfl, rfl⟩
    go_wp2_with fail
    go_ret
    exact ⟨ret_int hr3.out, S.b⟩
  subst hs
  rw [if_pos rfl] at hr2
  obtain ⟨pa, hpa⟩ : ∃ z, (a == 3600) = z := ⟨_, rfl⟩
  obtain ⟨pb, hpb⟩ : ∃ z, (a' == 3600) = z := ⟨_, rfl⟩
  rw [hpa, hpb] at hr2
  have c2 := S.c 1 2 rfl rfl
  have d2 := S.c 0 2 rfl rfl
  by_cases hp : pa = pb
  rotate_left
  · rw [if_neg hp] at hr2
    cases pa
    all_goals
      cases pb
      all_goals
        first
        | exact absurd rfl hp
        | skip
    · obtain rfl : -1 = r := by simpa using hr2
      clear hp hr2
      go_wp2_with fail
      go_ret
      exact ⟨rfl, S.b⟩
    · obtain rfl : 1 = r := by simpa using hr2
      clear hp hr2
      go_wp2_with fail
      go_ret
      exact ⟨rfl, S.b⟩
  subst hp
  rw [if_pos rfl] at hr2
  replace hr2 := Lib.hid hr2
  have hpe : (pa != pa) = false := by simp
  have f2 := S.f 1 2 rfl rfl
  have g2 := S.f 0 2 rfl rfl
  have S2 := (S.set 1 2 (.int .i64 0) (g := w.heap.size) rfl (by simp) (Nat.le_refl _) (by simp) _ rfl).set 0 2 (.int .i64 0) (g := w.heap.size + 1) rfl (by simp) (by omega) (by simp) _ rfl
  have S3 : St w ((w3.setCell ⟨w.heap.size, 2, none⟩ (.int .i64 0)).setCell ⟨w.heap.size + 1, 2, none⟩ (.int .i64 0)) [(w.heap.size + 1, [.int .i64 o', .int .i64 s, .int .i64 0, .bool ov', .slice A' n' c', .slice B' m' d']), (w.heap.size, [.int .i64 o, .int .i64 s, .int .i64 0, .bool ov, .slice A n c, .slice B m d])] [(A, adV adj), (B, pfV pre), (A', adV adj'), (B', pfV pre')] := S2
  clear S2
  go_upto_region 10 with fail
  generalize (w3.setCell ⟨w.heap.size, 2, none⟩ (.int .i64 0)).setCell ⟨w.heap.size + 1, 2, none⟩ (.int .i64 0) = w4 at *
  clear c1 d1 c2 d2 f2 g2 S
  go_cut [5, 6] (fun v5 v6 wx => v5 = .string ⟨lx.toArray⟩ ∧ v6 = .string ⟨ly.toArray⟩ ∧ Below w.heap.size w wx)
  case first =>
    have c0 := S3.c 1 0 rfl rfl
    have c1 := S3.c 1 1 rfl rfl
    have c2 := S3.c 1 2 rfl rfl
    have c3 := S3.c 1 3 rfl rfl
    have c4 := S3.c 1 4 rfl rfl
    have c5 := S3.c 1 5 rfl rfl
    have d0 := S3.c 0 0 rfl rfl
    have d1 := S3.c 0 1 rfl rfl
    have d2 := S3.c 0 2 rfl rfl
    have d3 := S3.c 0 3 rfl rfl
    have d4 := S3.c 0 4 rfl rfl
    have d5 := S3.c 0 5 rfl rfl
    have CVX := fun W A4 a4 (h : Bs W A4 lx) => conv_bytes (P := Try.prog) W (src := 23) (dst := 9) (e := 5) Try.underlying23 Try.underlying5 Try.underlying9 (cap := a4) h rfl
    have CVY := fun W A4 a4 (h : Bs W A4 ly) => conv_bytes (P := Try.prog) W (src := 23) (dst := 9) (e := 5) Try.underlying23 Try.underlying5 Try.underlying9 (cap := a4) h rfl
    replace CVX := Lib.hid CVX
    replace CVY := Lib.hid CVY
    have T4 := S3.drew
    have tok1 : True := trivial
    have tok2 : True := trivial
    clear S3 hr2 hpa hpb hpe
    go_region_law
      (first
        | (clear tok1; rw [if_pos (by simp [Region.wanted])]; go_simp; (with_reducible refine (EX.out _ T4.b).mono ?_); rintro e w5 ⟨v5, rfl, hown5, hb5⟩; have T5 := T4.call hb5; obtain ⟨A5, a5, rfl, rd5, _, _⟩ := own_rd hown5; have ce5 := CVX.out _ _ a5 rd5; have x0 := T5.c 0 0 rfl rfl; have x1 := T5.c 0 1 rfl rfl; have x2 := T5.c 0 2 rfl rfl; have x3 := T5.c 0 3 rfl rfl; have x4 := T5.c 0 4 rfl rfl; have x5 := T5.c 0 5 rfl rfl; dsimp only)
        | (clear tok2; rw [if_pos (by simp [Region.wanted])]; go_simp; (with_reducible refine (EY.out _ T5.b).mono ?_); rintro e w6 ⟨v6, rfl, hown6, hb6⟩; have T6 := T5.call hb6; obtain ⟨A6, a6, rfl, rd6, _, _⟩ := own_rd hown6; have cf6 := CVX.out _ _ a5 (rd5.below hb6); have ce6 := CVY.out _ _ a6 rd6; dsimp only))
    all_goals
      go_wp2_with fail
      go_meet
      exact ⟨rfl, rfl, T6.b⟩
  case rest =>
  obtain ⟨rfl, rfl, hb⟩ := hcut
  clear EX EY hpa hpb hpe S3
  have hl := less_cmp lx ly
  have h0 := cmp_eq0 lx ly
  have hbd := cmp_bd lx ly
  rw [hr2.out] at hl h0 hbd
  rcases hbd with rfl | rfl | rfl
  · have e1 : (lx == ly) = false := by rw [beq_eq_false_iff_ne]; intro e; have := h0.2 e; omega
    have e2 : Op.bytesLess lx ly = true := by rw [hl]; rfl
    clear hl h0 hr2
    go_wp2_with fail
    go_ret
    exact ⟨rfl, hb⟩
  · obtain rfl := h0.1 rfl
    have e2 : Op.bytesLess lx lx = false := by rw [hl]; rfl
    clear hl h0 hr2
    go_wp2_with fail
    go_ret
    exact ⟨rfl, hb⟩
  · have e1 : (lx == ly) = false := by rw [beq_eq_false_iff_ne]; intro e; have := h0.2 e; omega
    have e2 : Op.bytesLess lx ly = false := by rw [hl]; rfl
    clear hl h0 hr2
    go_wp2_with fail
    go_ret
    exact ⟨rfl, hb⟩

end Go.Proofs.Ytnfldccaeibcpaa

namespace Go.Proofs.Ytnfldccaeibcpaa
set_option linter.unusedVariables false
open Go.RowKit

theorem valid_at (w : World) (v : Value) (x : La) (h : LaAt w v x) : Calls Try.prog 27 #[v] w fun e w' => e = .returned (.bool (vB x)) ∧ Below w.heap.size w w' := by
  obtain ⟨A, c, B, d, rfl, rA, rB, h1, h2, h3, h4, hu⟩ := h
  exact valid_any x.o x.s x.a x.ov x.adj x.pre A _ c B _ d w rfl rfl rA rB hu
theorem rvalid_at (w : World) (v : Value) (x : La) (h : LaAt w v x) : Calls Try.prog 17 #[v] w fun e w' => e = .returned (.bool (vB x)) ∧ Below w.heap.size w w' := by
  obtain ⟨A, c, B, d, rfl, rA, rB, h1, h2, h3, h4, hu⟩ := h
  unfold maxLen at h2 h4
  exact rvalid_any x.o x.s x.a x.ov x.adj x.pre A _ c B _ d w rfl rfl (by omega) (by omega) rA rB hu
def EncPost (w : World) (x : La) (e : Ending) (w' : World) : Prop :=
  ∃ A c, e = .returned (.tuple #[.slice A (lencB x).length c, .int .i64 (lencE x)]) ∧ w'.ownsRow w.heap.size 5 1 (.slice A (lencB x).length c) (lencB x).length ((lencB x).map u8v) ∧ Below w.heap.size w w'
theorem enc_at (w : World) (v : Value) (x : La) (h : LaAt w v x) : Calls Try.prog 53 #[v] w (EncPost w x) := by
  obtain ⟨A, c, B, d, rfl, rA, rB, h1, h2, h3, h4, hu⟩ := h
  refine (lencode_any x.o x.s x.a x.ov x.adj x.pre A _ c B _ d w rfl rfl rA rB hu).mono ?_
  rintro e w' ⟨v, he, hown, hb⟩
  obtain ⟨A', c', rfl, _⟩ := own_rd hown
  exact ⟨A', c', he, hown, hb⟩
def REncPost (w : World) (x : La) (e : Ending) (w' : World) : Prop :=
  ∃ A c, e = .returned (.slice A (laEnc x).length c) ∧ w'.ownsRow w.heap.size 5 1 (.slice A (laEnc x).length c) (laEnc x).length ((laEnc x).map u8v) ∧ Below w.heap.size w w'
theorem renc_at (w : World) (v : Value) (x : La) (h : LaAt w v x) (hv : LaValid x) : Calls Try.prog 56 #[v] w (REncPost w x) := by
  obtain ⟨A, c, B, d, rfl, rA, rB, h1, h2, h3, h4, hu⟩ := h
  refine (rencode_any x.o x.s x.a x.ov x.adj x.pre A _ c B _ d w rfl rfl rA rB hu hv).mono ?_
  rintro e w' ⟨v, he, hown, hb⟩
  obtain ⟨A', c', rfl, _⟩ := own_rd hown
  exact ⟨A', c', he, hown, hb⟩
theorem LaAt.ok {w : World} {v : Value} {x : La} (h : LaAt w v x) : ∀ p ∈ x.pre, p.1 < 4294967296 := by
  obtain ⟨A, c, B, d, _, _, _, _, _, _, _, hu⟩ := h
  exact hu
theorem LaAt.form {w : World} {v : Value} {x : La} (h : LaAt w v x) : ∃ A c B d, v = laV x.o x.s x.a x.ov A x.adj.length c B x.pre.length d := by
  obtain ⟨A, c, B, d, hv, _⟩ := h
  exact ⟨A, c, B, d, hv⟩
/-- Both at once: what an advertisement's value is, and that it is there in all later worlds. -/
theorem LaAt.open {w : World} {v : Value} {x : La} (h : LaAt w v x) : ∃ A c B d, v = laV x.o x.s x.a x.ov A x.adj.length c B x.pre.length d ∧ Hid (∀ W', Below w.heap.size w W' → LaAt W' (laV x.o x.s x.a x.ov A x.adj.length c B x.pre.length d) x) := by
  obtain ⟨A, c, B, d, hv⟩ := h.form
  subst hv
  exact ⟨A, c, B, d, rfl, fun W' hb => h.below hb⟩
theorem LaOwn.open {w : World} {base : Nat} {v : Value} {x : La} (h : LaOwn w base v x) : ∃ A c B d, v = laV x.o x.s x.a x.ov A x.adj.length c B x.pre.length d ∧ Hid (∀ W', Below w.heap.size w W' → LaAt W' (laV x.o x.s x.a x.ov A x.adj.length c B x.pre.length d) x) := h.at.open

theorem St.lt {W w : World} {bs : List (Nat × List Value)} {rs : List (Option Addr × List Value)} (S : St W w bs rs) (i : Nat) {g : Nat} {cs : List Value} (hi : bs[i]? = some (g, cs)) (hn : 0 < cs.length) : g < w.heap.size := (S.box i hi).lt hn
/-- The numbers were stored anew. -/
theorem LaAt.renum {w : World} {o s a : Int} {ov : Bool} {A : Option Addr} {n c : Nat} {B : Option Addr} {m d : Nat} {x : La} (h : LaAt w (laV o s a ov A n c B m d) x) (o' s' a' : Int) (ov' : Bool) :
    LaAt w (laV o' s' a' ov' A n c B m d) ⟨o', s', a', ov', x.adj, x.pre⟩ := by
  obtain ⟨A9, c9, B9, d9, e9, r1, r2, l1, l2, l3, l4, hu⟩ := h
  simp only [laV, Value.agg.injEq, Array.mk.injEq, List.cons.injEq, Value.slice.injEq, and_true] at e9
  obtain ⟨_, _, _, _, ⟨rfl, rfl, rfl⟩, rfl, rfl, rfl⟩ := e9
  exact ⟨_, _, _, _, rfl, r1, r2, l1, l2, l3, l4, hu⟩
theorem LaAt.opened {w : World} {v : Value} {x : La} (h : LaAt w v x) : ∃ A c B d, v = laV x.o x.s x.a x.ov A x.adj.length c B x.pre.length d ∧ LaAt w (laV x.o x.s x.a x.ov A x.adj.length c B x.pre.length d) x := by
  obtain ⟨A, c, B, d, hv⟩ := h.form
  subst hv
  exact ⟨A, c, B, d, rfl, h⟩
theorem belowR {B : Nat} {w w1 : World} (h : Below B w w1) (d : Nat) (os : Array Obj) (hs : B ≤ w1.heap.size) : Below B w (Go.Sort.grow (redrawn w1 d) os) := h.trans ((below_regrown w1 d os).mono hs)

end Go.Proofs.Ytnfldccaeibcpaa

namespace Go.Proofs.Ytnfldccaeibcpaa
set_option linter.unusedVariables false
open Go.RowKit

def ClonePost (w : World) (T : TypeId) (size n : Nat) (xs : List Value) (e : Ending) (w' : World) : Prop :=
  ∃ A c, e = .returned (.slice A n c) ∧ w'.ownsRow w.heap.size T size (.slice A n c) n xs ∧ Below w.heap.size w w'

set_option maxRecDepth 100000 in
set_option maxHeartbeats 800000 in
theorem clone_ad (w : World) (A : Option Addr) (n c : Nat) (l : List Ad) (hr : Rd w A (adV l)) (hn : l.length = n) (hb : n ≤ 1000000) :
    Calls Try.prog 46 #[.slice A n c] w (ClonePost w 105 3 n (adV l)) := by
  rcases A with _ | ad
  · have h0 := hr.nil_len
    rw [adV_len] at h0
    obtain rfl : l = [] := List.eq_nil_of_length_eq_zero (by omega)
    subst hn
    have hE := fun W => Lib.run_eql_slice_nil W 42 105 none 0 c 0 0 Try.underlying42
    go_enter Try.func46, Try.ntmps46
    go_wp2_with fail
    go_ret
    exact ⟨none, 0, rfl, World.ownsRow_nil _ _ _ _, Below.refl _ _⟩
  · have hl : (adV l).length = n * 3 := by rw [adV_len, hn]
    clear hn
    have hE := fun W => Lib.run_eql_slice_nil W 42 105 (some ad) n c 0 0 Try.underlying42
    go_enter Try.func46, Try.ntmps46
    go_wp2_with (at_builtin; refine wpList_app rfl adT (.tmp 5) (.tmp 6) rfl w.heap.size rfl (own_empty _ _ _) (m := n) rfl hl (hr.below (below_new' _ _)) (adV_one l) (by simp only [maxLen]; omega) (by omega) (by simp) n (adV l) (by omega) (by simp) ?_; intro v' w' ho hb')
    go_ret
    obtain ⟨A', c', rfl, _⟩ := own_rd ho
    exact ⟨A', c', rfl, ho, (below_new' _ _).trans hb'⟩

set_option maxRecDepth 100000 in
set_option maxHeartbeats 800000 in
theorem clone_pf (w : World) (A : Option Addr) (n c : Nat) (l : List Pf) (hr : Rd w A (pfV l)) (hn : l.length = n) (hb : n ≤ 1000000) :
    Calls Try.prog 47 #[.slice A n c] w (ClonePost w 108 2 n (pfV l)) := by
  rcases A with _ | ad
  · have h0 := hr.nil_len
    rw [pfV_len] at h0
    obtain rfl : l = [] := List.eq_nil_of_length_eq_zero (by omega)
    subst hn
    have hE := fun W => Lib.run_eql_slice_nil W 43 108 none 0 c 0 0 Try.underlying43
    go_enter Try.func47, Try.ntmps47
    go_wp2_with fail
    go_ret
    exact ⟨none, 0, rfl, World.ownsRow_nil _ _ _ _, Below.refl _ _⟩
  · have hl : (pfV l).length = n * 2 := by rw [pfV_len, hn]
    clear hn
    have hE := fun W => Lib.run_eql_slice_nil W 43 108 (some ad) n c 0 0 Try.underlying43
    go_enter Try.func47, Try.ntmps47
    go_wp2_with (at_builtin; refine wpList_app rfl pfT (.tmp 5) (.tmp 6) rfl w.heap.size rfl (own_empty _ _ _) (m := n) rfl hl (hr.below (below_new' _ _)) (pfV_one l) (by simp only [maxLen]; omega) (by omega) (by simp) n (pfV l) (by omega) (by simp) ?_; intro v' w' ho hb')
    go_ret
    obtain ⟨A', c', rfl, _⟩ := own_rd ho
    exact ⟨A', c', rfl, ho, (below_new' _ _).trans hb'⟩

end Go.Proofs.Ytnfldccaeibcpaa
