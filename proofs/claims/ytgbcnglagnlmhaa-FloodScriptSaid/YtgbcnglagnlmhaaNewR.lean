/-
  The contract of the reference's Newer.
-/
import Derived.Test.YtgbcnglagnlmhaaNew
import Derived.Test.YtgbcnglagnlmhaaEncR
import Derived.Test.YtgbcnglagnlmhaaValR
import Derived.Test.YtgbcnglagnlmhaaSmR
import Derived.Deep.RegionLaw
import Derived.Deep.DeepCutAuto
import Derived.WalkLawsBesides
namespace Go.Proofs.Ytgbcnglagnlmhaa
set_option linter.unusedVariables false
open Go.RowKit

theorem less_cmp : ∀ (a b : List UInt8), Op.bytesLess a b = (Lib.compareBytes a b == -1)
  | [], [] => rfl
  | [], _ :: _ => rfl
  | _ :: _, [] => rfl
  | x :: a, y :: b => by
    unfold Op.bytesLess Lib.compareBytes
    by_cases h1 : x < y
    · simp [h1]
    · by_cases h2 : y < x
      · have : x ≠ y := fun e => by subst e; exact absurd h2 (UInt8.lt_irrefl x)
        simp [h1, h2, this]
      · have e : x = y := UInt8.le_antisymm (UInt8.not_lt.1 h2) (UInt8.not_lt.1 h1)
        subst e
        simp [less_cmp a b]
theorem cmp_eq0 : ∀ (a b : List UInt8), Lib.compareBytes a b = 0 ↔ a = b
  | [], [] => by simp [Lib.compareBytes]
  | [], _ :: _ => by simp [Lib.compareBytes]
  | _ :: _, [] => by simp [Lib.compareBytes]
  | x :: a, y :: b => by
    unfold Lib.compareBytes
    by_cases h1 : x < y
    · have : x ≠ y := fun e => by subst e; exact absurd h1 (UInt8.lt_irrefl x)
      simp [h1, this]
    · by_cases h2 : y < x
      · have : x ≠ y := fun e => by subst e; exact absurd h2 (UInt8.lt_irrefl x)
        simp [h1, h2, this]
      · have e : x = y := UInt8.le_antisymm (UInt8.not_lt.1 h2) (UInt8.not_lt.1 h1)
        subst e
        simp [cmp_eq0 a b]
theorem cmp_bd : ∀ (a b : List UInt8), Lib.compareBytes a b = -1 ∨ Lib.compareBytes a b = 0 ∨ Lib.compareBytes a b = 1
  | [], [] => by simp [Lib.compareBytes]
  | [], _ :: _ => by simp [Lib.compareBytes]
  | _ :: _, [] => by simp [Lib.compareBytes]
  | x :: a, y :: b => by
    unfold Lib.compareBytes
    have := cmp_bd a b
    split
    · simp
    · split
      · simp
      · exact this

set_option maxRecDepth 100000 in
set_option maxHeartbeats 6400000 in
theorem rnewer_any (w : World) (v u : Value) (x y : La) (hx : LaAt w v x) (hy : LaAt w u y) : Calls Try.prog 51 #[v, u] w fun e w' => e = .returned (.int .i64 (newI x y)) ∧ Below w.heap.size w w' := by
  obtain ⟨A, c, B, d, rfl, rA, rB, h1, h2, h3, h4, hu⟩ := hx
  obtain ⟨A', c', B', d', rfl, rA', rB', h1', h2', h3', h4', hu'⟩ := hy
  unfold maxLen at h2 h4 h2' h4'
  have S := ((((((St.start w).read rB').read rA').read rB).read rA).new' #[.int .i64 x.o, .int .i64 x.s, .int .i64 x.a, .bool x.ov, .slice A x.adj.length c, .slice B x.pre.length d] 32 w.heap.size _ rfl rfl).new' #[.int .i64 y.o, .int .i64 y.s, .int .i64 y.a, .bool y.ov, .slice A' y.adj.length c', .slice B' y.pre.length d'] 32 (w.heap.size + 1) _ (by simp) rfl
  have VX := fun W (hb : Below w.heap.size w W) => rvalid_any x.o x.s x.a x.ov x.adj x.pre A _ c B _ d W rfl rfl (by omega) (by omega) (rA.below hb) (rB.below hb) hu
  have VY := fun W (hb : Below w.heap.size w W) => rvalid_any y.o y.s y.a y.ov y.adj y.pre A' _ c' B' _ d' W rfl rfl (by omega) (by omega) (rA'.below hb) (rB'.below hb) hu'
  rw [show (⟨x.o, x.s, x.a, x.ov, x.adj, x.pre⟩ : La) = x from rfl] at VX
  rw [show (⟨y.o, y.s, y.a, y.ov, y.adj, y.pre⟩ : La) = y from rfl] at VY
  have EX := fun (h : LaValid x) W (hb : Below w.heap.size w W) => rencode_any x.o x.s 0 x.ov x.adj x.pre A _ c B _ d W rfl rfl (rA.below hb) (rB.below hb) hu (age0_valid h)
  have EY := fun (h : LaValid y) W (hb : Below w.heap.size w W) => rencode_any y.o y.s 0 y.ov y.adj y.pre A' _ c' B' _ d' W rfl rfl (rA'.below hb) (rB'.below hb) hu' (age0_valid h)
  rw [show (⟨x.o, x.s, 0, x.ov, x.adj, x.pre⟩ : La) = age0 x from rfl] at EX
  rw [show (⟨y.o, y.s, 0, y.ov, y.adj, y.pre⟩ : La) = age0 y from rfl] at EY
  have c0 := S.c 1 0 rfl rfl
  have c1 := S.c 1 1 rfl rfl
  have c2 := S.c 1 2 rfl rfl
  have c3 := S.c 1 3 rfl rfl
  have c4 := S.c 1 4 rfl rfl
  have c5 := S.c 1 5 rfl rfl
  clear rA rB rA' rB'
  have hsb : vB x = true → vB y = true → (1 ≤ x.s ∧ x.s ≤ 1073741824) ∧ 1 ≤ y.s ∧ y.s ≤ 1073741824 := fun h1 h2 => ⟨(vB_iff.1 h1).2.1, (vB_iff.1 h2).2.1⟩
  unfold newI
  generalize laEnc (age0 x) = lx at *
  generalize laEnc (age0 y) = ly at *
  generalize hbx : vB x = bx at *
  generalize hby : vB y = by' at *
  replace EX : bx = true → _ := fun h => EX (vB_iff.1 (hbx.trans h))
  replace EY : by' = true → _ := fun h => EY (vB_iff.1 (hby.trans h))
  clear hbx hby
  generalize x.adj.length = n at *
  generalize x.pre.length = m at *
  generalize y.adj.length = n' at *
  generalize y.pre.length = m' at *
  obtain ⟨o, s, a, ov, adj, pre⟩ := x
  obtain ⟨o', s', a', ov', adj', pre'⟩ := y
  simp only at *
  have VX1 := VX _ S.b
  replace VX1 := Lib.hid VX1
  replace VX := Lib.hid VX
  replace VY := Lib.hid VY
  replace EX := Lib.hid EX
  replace EY := Lib.hid EY
  replace hsb := Lib.hid hsb
  clear hu hu'
  cases bx with
  | false =>
    rw [if_neg (by simp)]
    go_enter Try.func51, Try.ntmps51
    go_wp2_with fail
    (with_reducible refine VX1.out.mono ?_)
    rintro e w2 ⟨rfl, hb⟩
    replace S := S.call hb
    clear c0 c1 c2 c3 c4 c5 VX1
    go_wp2_with fail
    go_ret
    exact ⟨rfl, S.b⟩
  | true =>
  obtain ⟨r, hr⟩ : ∃ r : Int, (if true = true ∧ by' = true then (if s = s' then (if (a == 3600) = (a' == 3600) then Lib.compareBytes lx ly else if (a == 3600) = true then (1 : Int) else -1) else cmpI s s') else 0) = r := ⟨_, rfl⟩
  rw [hr]
  replace hr := Lib.hid hr
  replace EX := EX.out rfl
  replace EX := Lib.hid EX
  go_enter Try.func51, Try.ntmps51
  go_wp2_with fail
  (with_reducible refine VX1.out.mono ?_)
  rintro e w2 ⟨rfl, hb⟩
  replace S := S.call hb
  clear c0 c1 c2 c3 c4 c5 VX1 hb
  have d0 := S.c 0 0 rfl rfl
  have d1 := S.c 0 1 rfl rfl
  have d2 := S.c 0 2 rfl rfl
  have d3 := S.c 0 3 rfl rfl
  have d4 := S.c 0 4 rfl rfl
  have d5 := S.c 0 5 rfl rfl
  have VY1 := VY.out _ S.b
  replace VY1 := Lib.hid VY1
  go_wp2_with fail
  (with_reducible refine VY1.out.mono ?_)
  rintro e w3 ⟨rfl, hb⟩
  replace S := S.call hb
  clear d0 d1 d2 d3 d4 d5 VY1 hb VX VY
  cases by' with
  | false =>
    obtain rfl : 0 = r := by have := hr.out; rwa [if_neg (by simp)] at this
    go_wp2_with fail
    go_ret
    exact ⟨rfl, S.b⟩
  | true =>
  have hr2 := hr.out
  rw [if_pos (by simp)] at hr2
  replace EY := EY.out (by first | rfl | trivial)
  replace EY := Lib.hid EY
  obtain ⟨⟨u1, u2⟩, u3, u4⟩ := hsb.out (by first | rfl | trivial) (by first | rfl | trivial)
  clear hr hsb
  have c1 := S.c 1 1 rfl rfl
  have d1 := S.c 0 1 rfl rfl
  by_cases hs : s = s'
  rotate_left
  · rw [if_neg hs] at hr2
    have hr3 : Hid (cmpI (s - s') 0 = r) := by
      show _ = _
      rw [← hr2]; unfold cmpI; split <;> split <;> (first | rfl | omega) <;> split <;> (first | rfl | omega)
    clear hr2
    have e2 : (s != s') = true := by simpa using hs
    clear hs
    go_wp2_with fail
    (with_reducible refine (sign_any _ _).mono ?_)
    rintro e w4 ⟨rfl, rfl⟩
    go_wp2_with fail
    go_ret
    exact ⟨ret_int hr3.out, S.b⟩
  subst hs
  rw [if_pos rfl] at hr2
  obtain ⟨pa, hpa⟩ : ∃ z, (a == 3600) = z := ⟨_, rfl⟩
  obtain ⟨pb, hpb⟩ : ∃ z, (a' == 3600) = z := ⟨_, rfl⟩
  rw [hpa, hpb] at hr2
  have c2 := S.c 1 2 rfl rfl
  have d2 := S.c 0 2 rfl rfl
  by_cases hp : pa = pb
  rotate_left
  · rw [if_neg hp] at hr2
    cases pa
    all_goals
      cases pb
      all_goals
        first
        | exact absurd rfl hp
        | skip
    · obtain rfl : -1 = r := by simpa using hr2
      clear hp hr2
      go_wp2_with fail
      go_ret
      exact ⟨rfl, S.b⟩
    · obtain rfl : 1 = r := by simpa using hr2
      clear hp hr2
      go_wp2_with fail
      go_ret
      exact ⟨rfl, S.b⟩
  subst hp
  rw [if_pos rfl] at hr2
  replace hr2 := Lib.hid hr2
  have hpe : (pa != pa) = false := by simp
  have f2 := S.f 1 2 rfl rfl
  have g2 := S.f 0 2 rfl rfl
  have S2 := (S.set 1 2 (.int .i64 0) (g := w.heap.size) rfl (by simp) (Nat.le_refl _) (by simp) _ rfl).set 0 2 (.int .i64 0) (g := w.heap.size + 1) rfl (by simp) (by omega) (by simp) _ rfl
  have S3 : St w ((w3.setCell ⟨w.heap.size, 2, none⟩ (.int .i64 0)).setCell ⟨w.heap.size + 1, 2, none⟩ (.int .i64 0)) [(w.heap.size + 1, [.int .i64 o', .int .i64 s, .int .i64 0, .bool ov', .slice A' n' c', .slice B' m' d']), (w.heap.size, [.int .i64 o, .int .i64 s, .int .i64 0, .bool ov, .slice A n c, .slice B m d])] [(A, adV adj), (B, pfV pre), (A', adV adj'), (B', pfV pre')] := S2
  clear S2
  go_upto_region 10 with fail
  generalize (w3.setCell ⟨w.heap.size, 2, none⟩ (.int .i64 0)).setCell ⟨w.heap.size + 1, 2, none⟩ (.int .i64 0) = w4 at *
  clear c1 d1 c2 d2 f2 g2 S
  go_cut [5, 6] (fun v5 v6 wx => v5 = .string ⟨lx.toArray⟩ ∧ v6 = .string ⟨ly.toArray⟩ ∧ Below w.heap.size w wx)
  case first =>
    have c0 := S3.c 1 0 rfl rfl
    have c1 := S3.c 1 1 rfl rfl
    have c2 := S3.c 1 2 rfl rfl
    have c3 := S3.c 1 3 rfl rfl
    have c4 := S3.c 1 4 rfl rfl
    have c5 := S3.c 1 5 rfl rfl
    have d0 := S3.c 0 0 rfl rfl
    have d1 := S3.c 0 1 rfl rfl
    have d2 := S3.c 0 2 rfl rfl
    have d3 := S3.c 0 3 rfl rfl
    have d4 := S3.c 0 4 rfl rfl
    have d5 := S3.c 0 5 rfl rfl
    have CVX := fun W A4 a4 (h : Bs W A4 lx) => conv_bytes (P := Try.prog) W (src := 22) (dst := 9) (e := 5) Try.underlying22 Try.underlying5 Try.underlying9 (cap := a4) h rfl
    have CVY := fun W A4 a4 (h : Bs W A4 ly) => conv_bytes (P := Try.prog) W (src := 22) (dst := 9) (e := 5) Try.underlying22 Try.underlying5 Try.underlying9 (cap := a4) h rfl
    replace CVX := Lib.hid CVX
    replace CVY := Lib.hid CVY
    have T4 := S3.drew
    have tok1 : True := trivial
    have tok2 : True := trivial
    clear S3 hr2 hpa hpb hpe
    go_region_law
      (first
        | (clear tok1; rw [if_pos (by simp [Region.wanted])]; go_simp; (with_reducible refine (EX.out _ T4.b).mono ?_); rintro e w5 ⟨v5, rfl, hown5, hb5⟩; have T5 := T4.call hb5; obtain ⟨A5, a5, rfl, rd5, _, _⟩ := own_rd hown5; have ce5 := CVX.out _ _ a5 rd5; have x0 := T5.c 0 0 rfl rfl; have x1 := T5.c 0 1 rfl rfl; have x2 := T5.c 0 2 rfl rfl; have x3 := T5.c 0 3 rfl rfl; have x4 := T5.c 0 4 rfl rfl; have x5 := T5.c 0 5 rfl rfl; dsimp only)
        | (clear tok2; rw [if_pos (by simp [Region.wanted])]; go_simp; (with_reducible refine (EY.out _ T5.b).mono ?_); rintro e w6 ⟨v6, rfl, hown6, hb6⟩; have T6 := T5.call hb6; obtain ⟨A6, a6, rfl, rd6, _, _⟩ := own_rd hown6; have cf6 := CVX.out _ _ a5 (rd5.below hb6); have ce6 := CVY.out _ _ a6 rd6; dsimp only))
    all_goals
      go_wp2_with fail
      go_meet
      exact ⟨rfl, rfl, T6.b⟩
  case rest =>
  obtain ⟨rfl, rfl, hb⟩ := hcut
  clear EX EY hpa hpb hpe S3
  have hl := less_cmp lx ly
  have h0 := cmp_eq0 lx ly
  have hbd := cmp_bd lx ly
  rw [hr2.out] at hl h0 hbd
  rcases hbd with rfl | rfl | rfl
  · have e1 : (lx == ly) = false := by rw [beq_eq_false_iff_ne]; intro e; have := h0.2 e; omega
    have e2 : Op.bytesLess lx ly = true := by rw [hl]; rfl
    clear hl h0 hr2
    go_wp2_with fail
    go_ret
    exact ⟨rfl, hb⟩
  · obtain rfl := h0.1 rfl
    have e2 : Op.bytesLess lx lx = false := by rw [hl]; rfl
    clear hl h0 hr2
    go_wp2_with fail
    go_ret
    exact ⟨rfl, hb⟩
  · have e1 : (lx == ly) = false := by rw [beq_eq_false_iff_ne]; intro e; have := h0.2 e; omega
    have e2 : Op.bytesLess lx ly = false := by rw [hl]; rfl
    clear hl h0 hr2
    go_wp2_with fail
    go_ret
    exact ⟨rfl, hb⟩

end Go.Proofs.Ytgbcnglagnlmhaa
