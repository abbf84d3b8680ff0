/-
  lsdb: Install.
-/
import Derived.Test.YtkmpmgojgidcgaaDb1
import Derived.Test.YtkmpmgojgidcgaaNew
import Derived.StillTailTactics
import Derived.Deep.RegionLaw
namespace Go.Proofs.Ytkmpmgojgidcgaa
set_option linter.unusedVariables false
open Go.RowKit Go.Maps Go.Sort

/-! ### The look-ups as equations, for regions that draw their order -/
theorem MapIs.run_ok {w : World} {b : Nat} {M : Int → Option Value} (h : MapIs w b M) {i : Int} (hi : (Lit.int .i64 i).wf = true) :
    (Instr.lookup 81 (.map (some b)) (.int .i64 i) true).run Try.prog w = .ok (.tuple #[(M i).getD hdZ, .bool (M i).isSome]) w := by
  obtain ⟨D, hown, hd⟩ := h
  obtain ⟨v, ps, hrun, hv⟩ := hown.look_ok keyI Try.underlying81 (hdZero w) (zd := .held hdZ) (zp := []) rfl (keyOfI hi)
  obtain rfl : v = (M i).getD hdZ := by
    rw [hd.at_] at hv
    simp only [hdR, Option.some.injEq, Prod.mk.injEq, DataW.held.injEq] at hv
    exact hv.1
  rw [hd.has_] at hrun
  exact hrun
theorem MapIs.run_at {w : World} {b : Nat} {M : Int → Option Value} (h : MapIs w b M) {i : Int} (hi : (Lit.int .i64 i).wf = true) :
    (Instr.lookup 81 (.map (some b)) (.int .i64 i) false).run Try.prog w = .ok ((M i).getD hdZ) w := by
  obtain ⟨D, hown, hd⟩ := h
  obtain ⟨v, ps, hrun, hv⟩ := hown.lookup keyI Try.underlying81 (hdZero w) (zd := .held hdZ) (zp := []) rfl (keyOfI hi)
  obtain rfl : v = (M i).getD hdZ := by
    rw [hd.at_] at hv
    simp only [hdR, Option.some.injEq, Prod.mk.injEq, DataW.held.injEq] at hv
    exact hv.1
  exact hrun
theorem MapIs.drewN {w : World} {b : Nat} {M : Int → Option Value} (h : MapIs w b M) (n : Nat) : MapIs (w.drewN n) b M := h
theorem MapIs.drew {w : World} {b : Nat} {M : Int → Option Value} (h : MapIs w b M) : MapIs w.drew b M := h

theorem eqlSome (bm : Nat) (w : World) : (binOp .eql 81 (.map (some bm)) (.map none)).run Try.prog w = .ok (.bool false) w := by kernel_rfl
theorem below_row {w w' : World} (hb : Below w.heap.size w w') (row : Option Nat) : w.grownBy w' row := ⟨hb.os, hb.tape, hb.output, hb.size, fun k hk _ => hb.block k hk⟩
/-- 'm[i] = v', as an equation. -/
theorem MapIs.run_put {w : World} {b : Nat} {M : Int → Option Value} (h : MapIs w b M) {i : Int} (h0 : 0 ≤ i) (h1 : i ≤ 63) (u : Value) :
    ∃ w', (Instr.mapUpdate 81 (.map (some b)) (.int .i64 i) u).run Try.prog w = .ok () w' ∧ MapIs w' b (fun j => if j = i then some u else M j) ∧ w.grownBy w' (some b) := by
  obtain ⟨D, hown, hd⟩ := h
  obtain ⟨w', hrun, r1, r2⟩ := hown.update keyI Try.underlying81 (by unfold maxLen; omega) (keyOfI (wf64 h0 (by omega))) (val := u) (d := .held u) (ps := []) rfl
  exact ⟨w', hrun, .of r1 (hd.put hown.isMap h0 h1 u), r2⟩

/-- What Install does: the database, the result, the error. -/
noncomputable def instR (N : Db) (a : La) : Int := if vB a = true then match N a.o.toNat with | some h => if newI a h.x = 0 then 2 else if newI a h.x = -1 then 3 else 1 | none => 1 else 0
noncomputable def instE (a : La) : Int := if vB a = true then 0 else 1
noncomputable def instN (N : Db) (a : La) : Db := if vB a = true ∧ instR N a = 1 then fun i => if i = a.o.toNat then some ⟨a, 60⟩ else N i else N
def InstPost (w : World) (g b : Nat) (N : Db) (a : La) (e : Ending) (w' : World) : Prop :=
  e = .returned (.tuple #[.int .i64 (instR N a), .int .i64 (instE a)]) ∧ DbAt w' g b (instN N a) ∧ w.grownBy w' (some b)

set_option maxRecDepth 100000 in
set_option maxHeartbeats 6400000 in
theorem dinstall_any (w : World) (g b : Nat) (N : Db) (v : Value) (a : La) (h : DbAt w g b N) (hv : LaAt w v a) : Calls Try.prog 14 #[.pointer (some ⟨g, 0, none⟩), v] w (InstPost w g b N a) := by
  obtain ⟨A, c, B, d, rfl, hl⟩ := hv.opened
  clear hv
  have S := (St.start w).new' #[.int .i64 a.o, .int .i64 a.s, .int .i64 a.a, .bool a.ov, .slice A a.adj.length c, .slice B a.pre.length d] 30 w.heap.size _ rfl rfl
  have V := fun W hb => valid_at W _ a (hl.below hb)
  have hpost : Hid (∀ r er N' e w', instR N a = r → instE a = er → instN N a = N' → e = Ending.returned (.tuple #[.int .i64 r, .int .i64 er]) → DbAt w' g b N' → w.grownBy w' (some b) → InstPost w g b N a e w') := fun r er N' e w' h1 h2 h3 h4 h5 h6 => by subst h1 h2 h3; exact ⟨h4, h5, h6⟩
  rcases hvb : vB a with _ | _
  · have e1 : instR N a = 0 := by unfold instR; rw [hvb, if_neg (by simp)]
    have e2 : instE a = 1 := by unfold instE; rw [hvb, if_neg (by simp)]
    have e3 : instN N a = N := by unfold instN; rw [hvb, if_neg (by simp)]
    rw [hvb] at V
    replace V := Lib.hid V
    have hfin : Hid (∀ w', Below w.heap.size w w' → DbAt w' g b N ∧ w.grownBy w' (some b)) := fun w' hb => ⟨h.below hb, ⟨hb.os, hb.tape, hb.output, hb.size, fun k hk _ => hb.block k hk⟩⟩
    replace e1 := Lib.hid e1
    replace e2 := Lib.hid e2
    replace e3 := Lib.hid e3
    clear h hl hvb
    have a0 := S.c 0 0 rfl rfl
    have a1 := S.c 0 1 rfl rfl
    have a2 := S.c 0 2 rfl rfl
    have a3 := S.c 0 3 rfl rfl
    have a4 := S.c 0 4 rfl rfl
    have a5 := S.c 0 5 rfl rfl
    go_enter Try.func14, Try.ntmps14
    go_wp2_with fail
    (with_reducible refine (V.out _ S.b).mono ?_)
    rintro e w1 ⟨rfl, hb⟩
    clear a0 a1 a2 a3 a4 a5
    replace S := S.call hb
    obtain ⟨f1, f2⟩ := hfin.out _ S.b
    go_wp2_with fail
    go_ret2
    exact hpost.out _ _ _ _ _ e1.out e2.out e3.out rfl f1 f2
  have hva := vB_iff.1 hvb
  have ho := hva.1
  have hadj := hva.2.2.2.1
  have hpre := hva.2.2.2.2.1
  obtain ⟨k, hk⟩ := Int.eq_ofNat_of_zero_le ho.1
  have e2 : instE a = 0 := by unfold instE; rw [hvb, if_pos rfl]
  rw [hvb] at V
  replace V := Lib.hid V
  obtain ⟨⟨M, hm, he⟩, hc⟩ := id h
  have hek := he k (by omega)
  have hgb := h.ne
  have C := fun W hb => dclone_any W _ a (hl.below hb) (by omega) (by omega)
  replace C := Lib.hid C
  replace hk : Hid (a.o = (k : Int)) := hk
  replace e2 := Lib.hid e2
  have hwf : (Lit.int .i64 a.o).wf = true := wf64 ho.1 (by omega)
  have hfin : Hid (∀ w', Below w.heap.size w w' → DbAt w' g b N ∧ w.grownBy w' (some b)) := fun w' hb => ⟨h.below hb, ⟨hb.os, hb.tape, hb.output, hb.size, fun k hk _ => hb.block k hk⟩⟩
  have a0 := S.c 0 0 rfl rfl
  have a1 := S.c 0 1 rfl rfl
  have a2 := S.c 0 2 rfl rfl
  have a3 := S.c 0 3 rfl rfl
  have a4 := S.c 0 4 rfl rfl
  have a5 := S.c 0 5 rfl rfl
  go_enter Try.func14, Try.ntmps14
  go_wp2_with fail
  (with_reducible refine (V.out _ S.b).mono ?_)
  rintro e w1 ⟨rfl, hb⟩
  clear a0 a1 a2 a3 a4 a5
  replace S := S.call hb
  clear V hb
  have hm1 := hm.below S.b
  have hc1 := cell_later S.b hc
  generalize hMv : (M a.o).getD hdZ = u at *
  generalize hMs : (M a.o).isSome = ok at *
  have b2 := below_new' w1 (.cells #[.int .i64 0, .int .i64 0, .int .i64 0, .bool false, .slice none 0 0, .slice none 0 0, .int .i64 0] 89)
  have L1 := (hm1.drew).run_ok hwf
  have L2 := (hm1.below b2).drew.run_ok hwf
  have T := S.drew
  have T2 := (S.alloc (.cells #[.int .i64 0, .int .i64 0, .int .i64 0, .bool false, .slice none 0 0, .slice none 0 0, .int .i64 0] 89)).drew
  have c1 : w1.drew.cell? ⟨g, 0, none⟩ = some (.map (some b)) := hc1
  have c2 : (w1.alloc (.cells #[.int .i64 0, .int .i64 0, .int .i64 0, .bool false, .slice none 0 0, .slice none 0 0, .int .i64 0] 89)).drew.cell? ⟨g, 0, none⟩ = some (.map (some b)) := (by have := cell_later b2 hc1; exact this)
  rw [hMv, hMs] at L1 L2
  have hu : ∃ u0 u1 u2 u3 A9 n9 c9 B9 m9 d9 u6, u = .agg #[.int .i64 u0, .int .i64 u1, .int .i64 u2, .bool u3, .slice A9 n9 c9, .slice B9 m9 d9, .int .i64 u6] := by
    rw [← hMv]
    cases hM : M a.o with
    | none => exact ⟨_, _, _, _, _, _, _, _, _, _, _, rfl⟩
    | some vv =>
      rw [← hk.out, hM] at hek
      cases hN : N k with
      | none => rw [hN] at hek; exact hek.elim
      | some hh =>
        rw [hN] at hek
        obtain ⟨A9, c9, B9, d9, rfl, _⟩ := hek
        exact ⟨_, _, _, _, _, _, _, _, _, _, _, rfl⟩
  obtain ⟨u0, u1, u2, u3, A9, n9, c9, B9, m9, d9, u6, rfl⟩ := hu
  replace hMv := Lib.hid hMv
  replace hMs := Lib.hid hMs
  have a0 := T.c 0 0 rfl rfl
  have a1 := T.c 0 1 rfl rfl
  have a2 := T.c 0 2 rfl rfl
  have a3 := T.c 0 3 rfl rfl
  have a4 := T.c 0 4 rfl rfl
  have a5 := T.c 0 5 rfl rfl
  have r0 := T2.c 0 0 rfl rfl
  have r1 := T2.c 0 1 rfl rfl
  have r2 := T2.c 0 2 rfl rfl
  have r3 := T2.c 0 3 rfl rfl
  have r4 := T2.c 0 4 rfl rfl
  have r5 := T2.c 0 5 rfl rfl
  go_upto_region 5 with fail
  go_cut [6, 7] (fun v6 v7 wx => v6 = .pointer (some ⟨w1.heap.size, 0, none⟩) ∧ v7 = .bool ok ∧ wx = (w1.alloc (.cells #[.int .i64 u0, .int .i64 u1, .int .i64 u2, .bool u3, .slice A9 n9 c9, .slice B9 m9 d9, .int .i64 u6] 89)).drew)
  case first =>
    go_region_law (fail)
    all_goals
      go_wp2_with fail
      go_meet
      exact ⟨rfl, rfl, rfl⟩
  case rest =>
    obtain ⟨rfl, rfl, rfl⟩ := hcut
    clear a0 a1 a2 a3 a4 a5
    clear r0 r1 r2 r3 r4 r5
    clear T T2 L1 L2 c1 c2 b2
    have b3 := below_new' w1 (.cells #[.int .i64 u0, .int .i64 u1, .int .i64 u2, .bool u3, .slice A9 n9 c9, .slice B9 m9 d9, .int .i64 u6] 89)
    have S2 := (S.new' #[.int .i64 u0, .int .i64 u1, .int .i64 u2, .bool u3, .slice A9 n9 c9, .slice B9 m9 d9, .int .i64 u6] 89 w1.heap.size _ rfl rfl).drew
    have hm2 := (hm1.below b3).drew
    have c2 : (w1.alloc (.cells #[.int .i64 u0, .int .i64 u1, .int .i64 u2, .bool u3, .slice A9 n9 c9, .slice B9 m9 d9, .int .i64 u6] 89)).drew.cell? ⟨g, 0, none⟩ = some (.map (some b)) := (by have := cell_later b3 hc1; exact this)
    clear S b3
    generalize (w1.alloc _).drew = w2 at *
    generalize w1.heap.size = g2 at *
    have L0 := hMs
    cases ok with
    | false =>
      have hNk : N k = none := by
        have hMn : M a.o = none := by have := hMs.out; simpa using this
        rw [← hk.out, hMn] at hek
        cases hN : N k with
        | none => rfl
        | some hh => rw [hN] at hek; exact hek.elim
      have e1 : instR N a = 1 := by unfold instR; rw [hvb, if_pos rfl, hk.out, Int.toNat_natCast, hNk]
      have S3 := S2
      have c0 := c2
      have e3 : instN N a = fun i => if i = a.o.toNat then some ⟨a, 60⟩ else N i := by unfold instN; rw [if_pos ⟨hvb, e1⟩]
      replace e1 := Lib.hid e1
      replace e3 := Lib.hid e3
      clear hMv hMs L0 hek
      have eqs := eqlSome b
      go_upto_region 14 with fail
      have T := S3.drew
      have c1 := c0
      replace c1 : World.cell? (World.drew _) ⟨g, 0, none⟩ = some (.map (some b)) := c1
      have a0 := T.c 1 0 rfl rfl
      have a1 := T.c 1 1 rfl rfl
      have a2 := T.c 1 2 rfl rfl
      have a3 := T.c 1 3 rfl rfl
      have a4 := T.c 1 4 rfl rfl
      have a5 := T.c 1 5 rfl rfl
      have tok1 : True := trivial
      go_region_law
        (first
          | (clear tok1; rw [if_pos (by simp [Region.wanted])]; go_simp; (with_reducible refine (C.out _ T.b).mono ?_); rintro e wa ⟨va, rfl, hown, hba⟩; obtain ⟨A5, c5, B5, d5, rfl, hL5⟩ := hown.ty; dsimp only; replace T := T.call hba; replace c1 := cell_later hba c1; have a0 := T.c 1 0 rfl rfl; obtain ⟨w9, run9, hm9, hg9⟩ := (hm.below T.b).run_put ho.1 ho.2 (hdV a A5 c5 B5 d5 60)))
      all_goals
        have hdb : DbAt w9 g b (fun i => if i = k then some ⟨a, 60⟩ else N i) := DbAt.put (hm.below T.b) (fun i hi => (he i hi).below T.b) c1 hgb k (by have := hk.out; omega) (some (hdV a A5 c5 B5 d5 60)) (some ⟨a, 60⟩) ⟨A5, c5, B5, d5, rfl, hL5.out _ (Below.refl _ _)⟩ (by rw [← hk.out]; exact hm9) hg9
        have hgr : w.grownBy w9 (some b) := (below_row T.b _).trans hg9
        have hN9 : instN N a = fun i => if i = k then some ⟨a, 60⟩ else N i := by rw [e3.out, hk.out]; rfl
        replace hN9 := Lib.hid hN9
        clear e3 hm9 hg9 T c1 run9
        go_wp2_with fail
        go_ret2
        exact hpost.out _ _ _ _ _ e1.out e2.out hN9.out rfl hdb hgr
    | true =>
      obtain ⟨hh, hNk, hu, hlx⟩ : ∃ hh, N k = some hh ∧ (.agg #[.int .i64 u0, .int .i64 u1, .int .i64 u2, .bool u3, .slice A9 n9 c9, .slice B9 m9 d9, .int .i64 u6] : Value) = hdV hh.x A9 c9 B9 d9 hh.l ∧ LaAt w (laV hh.x.o hh.x.s hh.x.a hh.x.ov A9 hh.x.adj.length c9 B9 hh.x.pre.length d9) hh.x := by
        rw [hk.out] at hMs hMv
        cases hM : M (k : Int) with
        | none => have := hMs.out; rw [hM] at this; cases this
        | some vv =>
          rw [hM] at hek
          cases hN : N k with
          | none => rw [hN] at hek; exact hek.elim
          | some hh =>
            rw [hN] at hek
            obtain ⟨A8, c8, B8, d8, rfl, hla⟩ := hek
            have hv := hMv.out
            rw [hM] at hv
            simp only [Option.getD_some, Value.agg.injEq, Array.mk.injEq, List.cons.injEq, Value.slice.injEq, Value.int.injEq, Value.bool.injEq, true_and, and_true] at hv
            obtain ⟨rfl, rfl, rfl, rfl, ⟨rfl, rfl, rfl⟩, ⟨rfl, rfl, rfl⟩, rfl⟩ := hv
            exact ⟨hh, rfl, rfl, hla.1⟩
      simp only [Value.agg.injEq, Array.mk.injEq, List.cons.injEq, Value.slice.injEq, Value.int.injEq, Value.bool.injEq, true_and, and_true] at hu
      obtain ⟨rfl, rfl, rfl, rfl, rfl, rfl, rfl⟩ := hu
      have NW := lnewer_any w2 _ _ a hh.x (hl.below S2.b) (hlx.below S2.b)
      obtain ⟨z, hz⟩ : ∃ z, newI a hh.x = z := ⟨_, rfl⟩
      rw [hz] at NW
      replace NW := Lib.hid NW
      have a0 := S2.c 1 0 rfl rfl
      have a1 := S2.c 1 1 rfl rfl
      have a2 := S2.c 1 2 rfl rfl
      have a3 := S2.c 1 3 rfl rfl
      have a4 := S2.c 1 4 rfl rfl
      have a5 := S2.c 1 5 rfl rfl
      have r0 := S2.c 0 0 rfl rfl
      have r1 := S2.c 0 1 rfl rfl
      have r2 := S2.c 0 2 rfl rfl
      have r3 := S2.c 0 3 rfl rfl
      have r4 := S2.c 0 4 rfl rfl
      have r5 := S2.c 0 5 rfl rfl
      go_wp2_with fail
      (with_reducible refine (NW.out).mono ?_)
      rintro e w3 ⟨rfl, hb⟩
      clear a0 a1 a2 a3 a4 a5
      clear r0 r1 r2 r3 r4 r5
      have S3 := S2.call hb
      have c0 := cell_later hb c2
      clear NW hb S2
      have hR : instR N a = if z = 0 then 2 else if z = -1 then 3 else 1 := by unfold instR; rw [hvb, if_pos rfl, hk.out, Int.toNat_natCast, hNk]; simp only [hz]
      by_cases hz0 : z = 0
      · subst hz0
        have e1 : instR N a = 2 := by rw [hR, if_pos rfl]
        have e3 : instN N a = N := by unfold instN; rw [e1, if_neg (by simp)]
        obtain ⟨f1, f2⟩ := hfin.out _ S3.b
        replace e1 := Lib.hid e1
        replace e3 := Lib.hid e3
        clear hR hz hNk
        go_wp2_with fail
        go_ret2
        exact hpost.out _ _ _ _ _ e1.out e2.out e3.out rfl f1 f2
      by_cases hz1 : z = -1
      · subst hz1
        have e1 : instR N a = 3 := by rw [hR, if_neg (by omega), if_pos rfl]
        have e3 : instN N a = N := by unfold instN; rw [e1, if_neg (by simp)]
        obtain ⟨f1, f2⟩ := hfin.out _ S3.b
        replace e1 := Lib.hid e1
        replace e3 := Lib.hid e3
        clear hR hz hNk hz0
        go_wp2_with fail
        go_ret2
        exact hpost.out _ _ _ _ _ e1.out e2.out e3.out rfl f1 f2
      have e1 : instR N a = 1 := by rw [hR, if_neg hz0, if_neg hz1]
      have z0 : (z == 0) = false := by simpa using hz0
      have z1 : (z == -1) = false := by simpa using hz1
      clear hR hz hNk hz0 hz1
      have e3 : instN N a = fun i => if i = a.o.toNat then some ⟨a, 60⟩ else N i := by unfold instN; rw [if_pos ⟨hvb, e1⟩]
      replace e1 := Lib.hid e1
      replace e3 := Lib.hid e3
      clear hMv hMs L0 hek
      have eqs := eqlSome b
      go_upto_region 14 with fail
      have T := S3.drew
      have c1 := c0
      replace c1 : World.cell? (World.drew _) ⟨g, 0, none⟩ = some (.map (some b)) := c1
      have a0 := T.c 1 0 rfl rfl
      have a1 := T.c 1 1 rfl rfl
      have a2 := T.c 1 2 rfl rfl
      have a3 := T.c 1 3 rfl rfl
      have a4 := T.c 1 4 rfl rfl
      have a5 := T.c 1 5 rfl rfl
      have tok1 : True := trivial
      go_region_law
        (first
          | (clear tok1; rw [if_pos (by simp [Region.wanted])]; go_simp; (with_reducible refine (C.out _ T.b).mono ?_); rintro e wa ⟨va, rfl, hown, hba⟩; obtain ⟨A5, c5, B5, d5, rfl, hL5⟩ := hown.ty; dsimp only; replace T := T.call hba; replace c1 := cell_later hba c1; have a0 := T.c 1 0 rfl rfl; obtain ⟨w9, run9, hm9, hg9⟩ := (hm.below T.b).run_put ho.1 ho.2 (hdV a A5 c5 B5 d5 60)))
      all_goals
        have hdb : DbAt w9 g b (fun i => if i = k then some ⟨a, 60⟩ else N i) := DbAt.put (hm.below T.b) (fun i hi => (he i hi).below T.b) c1 hgb k (by have := hk.out; omega) (some (hdV a A5 c5 B5 d5 60)) (some ⟨a, 60⟩) ⟨A5, c5, B5, d5, rfl, hL5.out _ (Below.refl _ _)⟩ (by rw [← hk.out]; exact hm9) hg9
        have hgr : w.grownBy w9 (some b) := (below_row T.b _).trans hg9
        have hN9 : instN N a = fun i => if i = k then some ⟨a, 60⟩ else N i := by rw [e3.out, hk.out]; rfl
        replace hN9 := Lib.hid hN9
        clear e3 hm9 hg9 T c1 run9
        go_wp2_with fail
        go_ret2
        exact hpost.out _ _ _ _ _ e1.out e2.out hN9.out rfl hdb hgr

end Go.Proofs.Ytkmpmgojgidcgaa
