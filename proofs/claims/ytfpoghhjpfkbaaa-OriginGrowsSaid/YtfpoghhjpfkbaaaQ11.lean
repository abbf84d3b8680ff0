/-
  The texts OrgSt, OrgSc, Open, Frame, LaArg, one after the other.
-/
import Derived.Test.YtfpoghhjpfkbaaaQ10
import Derived.ProofKit
import Derived.OpenShut
import Derived.ShutString
import Derived.ChangeOld
import Derived.Test.YtfpoghhjpfkbaaaRows
namespace Go.Proofs.Ytfpoghhjpfkbaaa
set_option linter.unusedVariables false
open Go.RowKit Go.Sort

theorem Avoid.below {w w' : World} {g b : Nat} (h : Avoid w g b) (hg : g < w.heap.size) (hb : Below w.heap.size w w') : Avoid w' g b := fun A n c hn hc => h A n c hn (by rw [hb.cell (p := ⟨g, 1, none⟩) hg, hb.cell (p := ⟨g, 2, none⟩) hg] at hc; exact hc)
/-- The originator, a block that its slices avoid, what has turned since W. -/
def OF (W w : World) (g : Nat) (x : La) (mk : Bool) (b : Nat) : Prop := OrAt w g x mk ∧ Avoid w g b ∧ W.grownBy w (some g) ∧ Keeps W w g
theorem OF.below {W w w' : World} {g : Nat} {x : La} {mk : Bool} {b : Nat} (h : OF W w g x mk b) (hb : Below w.heap.size w w') : OF W w' g x mk b :=
  ⟨h.1.below hb, h.2.1.below h.1.lt hb, h.2.2.1.trans (below_grownBy hb _), h.2.2.2.trans h.2.2.1.size (Keeps.below h.1.lt hb)⟩
theorem OF.set {W w : World} {g : Nat} {x : La} {mk : Bool} {b : Nat} (h : OF W w g x mk b) (hb : b ≠ g) (hs : W.heap.size ≤ b) (j : Nat) (u : Value) : OF W (w.setCell ⟨b, j, none⟩ u) g x mk b :=
  ⟨h.1.far j u hb h.2.1, fun A n c hn hc => h.2.1 A n c hn (by rw [cell_far u (by intro e; injection e with e; exact hb e), cell_far u (by intro e; injection e with e; exact hb e)] at hc; exact hc),
    h.2.2.1.andThen (grownBy_set w b j u) (fun k hk => by injection hk with hk; left; omega), h.2.2.2.trans h.2.2.1.size (Keeps.far j u hb)⟩
theorem OF.call {W w w' : World} {g : Nat} {x x' : La} {mk mk' : Bool} {b : Nat} (h : OF W w g x mk b) (hk : Keeps w w' g) (ho : OrAt w' g x' mk') (hg : w.grownBy w' (some g)) (hb : b < w.heap.size) : OF W w' g x' mk' b :=
  ⟨ho, hk b hb h.2.1, h.2.2.1.trans hg, h.2.2.2.trans h.2.2.1.size hk⟩
theorem OF.or {W w : World} {g : Nat} {x : La} {mk : Bool} {b : Nat} (h : OF W w g x mk b) : OrAt w g x mk := h.1
/-- What a step leaves. -/
def StepPost (W0 w : World) (g : Nat) (e : Ending) (w' : World) : Prop :=
  ∃ v x mk r, e = .returned (.tuple #[v, .bool true]) ∧ RoAt W0 v r ∧ OrAt w' g x mk ∧ Rel x mk r ∧ Inv x mk ∧ Lens x ∧ w.grownBy w' (some g) ∧ Keeps w w' g

set_option maxRecDepth 100000 in
set_option maxHeartbeats 12800000 in
theorem step_set (W0 w : World) (hB0 : Below W0.heap.size W0 w) (g : Nat) (x : La) (mk : Bool) (v : Value) (r : RO) (kd n : Int) (y : La) (A' : Option Addr) (c' : Nat) (B' : Option Addr) (d' : Nat)
    (hg0 : W0.heap.size ≤ g) (ho : OrAt w g x mk) (hr : RoAt W0 v r) (hy : LaAt W0 (laV y.o y.s y.a y.ov A' y.adj.length c' B' y.pre.length d') y) (hrel : Rel x mk r) (hi : Inv x mk) (hlx : Lens x) (hly : Lens y) (hn : n ≤ 30000) (hk0 : kd = 0) :
    Calls Try.prog 11 #[.pointer (some ⟨g, 0, none⟩), v, .agg #[.int .i64 kd, .int .i64 n, .int .i64 y.o, .int .i64 y.s, .int .i64 y.a, .bool y.ov, .slice A' y.adj.length c', .slice B' y.pre.length d']] w (StepPost W0 w g) := by
  subst hk0
  obtain ⟨A, c, B, d, rfl, hl⟩ := hr
  have S0 : St W0 w [] [] := ⟨hB0, by simp, by simp⟩
  have S := ((S0.new' #[.int .i64 r.node, .int .i64 r.floor, .bool r.is, .int .i64 r.now.o, .int .i64 r.now.s, .int .i64 r.now.a, .bool r.now.ov, .slice A r.now.adj.length c, .slice B r.now.pre.length d, .int .i64 r.since] 34 w.heap.size _ rfl rfl).new' #[.int .i64 0, .int .i64 n, .int .i64 y.o, .int .i64 y.s, .int .i64 y.a, .bool y.ov, .slice A' y.adj.length c', .slice B' y.pre.length d'] 38 (w.heap.size + 1) _ (by simp) rfl).new' #[.int .i64 0, .int .i64 0, .bool false, .int .i64 0, .int .i64 0, .int .i64 0, .bool false, .slice none 0 0, .slice none 0 0, .int .i64 0] 34 (w.heap.size + 2) _ (by simp) rfl
  obtain ⟨i1, i2, i3, i4, i5⟩ := id hi
  have hgl := ho.lt
  have hne : w.heap.size + 2 ≠ g := by omega
  have hf : r.floor = x.s := hrel.2.1
  have hrR : RoAt W0 (roV r A c B d) r := ⟨A, c, B, d, rfl, hl⟩
  have oat : OF w _ g x mk (w.heap.size + 2) := OF.below (OF.below (OF.below (⟨ho, .new ho (by omega), below_grownBy (Below.refl _ _) _, .of_cells rfl rfl⟩ : OF w w g x mk (w.heap.size + 2)) (below_new' _ (.cells #[.int .i64 r.node, .int .i64 r.floor, .bool r.is, .int .i64 r.now.o, .int .i64 r.now.s, .int .i64 r.now.a, .bool r.now.ov, .slice A r.now.adj.length c, .slice B r.now.pre.length d, .int .i64 r.since] 34))) (below_new' _ (.cells #[.int .i64 0, .int .i64 n, .int .i64 y.o, .int .i64 y.s, .int .i64 y.a, .bool y.ov, .slice A' y.adj.length c', .slice B' y.pre.length d'] 38))) (below_new' _ (.cells #[.int .i64 0, .int .i64 0, .bool false, .int .i64 0, .int .i64 0, .int .i64 0, .bool false, .slice none 0 0, .slice none 0 0, .int .i64 0] 34))
  have hW := hB0.size
  clear ho hl S0
  replace hf := Lib.hid hf
  have hd : Hid (∀ u1 u2 u3 : List Value, 0 < u1.length → 0 < u2.length → 0 < u3.length → ∀ x ∈ [(w.heap.size + 2, u3), (w.heap.size + 1, u1), (w.heap.size, u2)], x.1 ≠ g ∧ 0 < x.2.length) := fun u1 u2 u3 h1 h2 h3 x hx => by
    simp only [List.mem_cons, List.not_mem_nil, or_false] at hx
    rcases hx with rfl | rfl | rfl
    · exact ⟨by simp only; omega, h3⟩
    · exact ⟨by simp only; omega, h1⟩
    · exact ⟨by simp only; omega, h2⟩
  have K := fun W (hb : Below W0.heap.size W0 W) (ho : OrAt W g x mk) => oset_keep W g _ x y mk ho (hy.below hb).co (by have := hly.1; omega) (by have := hly.2; omega) i1 i2
  have L := fun W (hb : Below W0.heap.size W0 W) => rset_any W0 W hb _ _ r y hrR hy (by rw [hf.out]; exact i1)
  obtain ⟨z1, hz1⟩ : ∃ z, setP x mk y = z := ⟨_, rfl⟩
  obtain ⟨z2, hz2⟩ : ∃ z, rsetP r y = z := ⟨_, rfl⟩
  have hag := set_agree (y := y) hrel hi hlx hly
  rw [hz1] at K
  rw [hz2] at L
  rw [hz1, hz2] at hag
  obtain ⟨x1, now1, md, er⟩ := z1
  obtain ⟨R, md2, er2⟩ := z2
  obtain ⟨hag1, hmd, her, hag2⟩ := hag
  simp only at hag1 hmd her hag2
  subst hmd her
  have hag := And.intro hag1 hag2
  clear hz1 hz2 hag1 hag2 hrel hi
  replace hag := Lib.hid hag
  unfold OrKeep OrPost at K
  unfold RRPost at L
  simp only at K L
  replace K := Lib.hid K
  replace L := Lib.hid L
  have s0 := S.c 1 0 rfl rfl
  have s1 := S.c 1 1 rfl rfl
  have s2 := S.c 1 2 rfl rfl
  have s3 := S.c 1 3 rfl rfl
  have s4 := S.c 1 4 rfl rfl
  have s5 := S.c 1 5 rfl rfl
  have s6 := S.c 1 6 rfl rfl
  have s7 := S.c 1 7 rfl rfl
  go_enter Try.func11, Try.ntmps11
  go_wp2_with fail
  (with_reducible refine (lawco_any _ _ _ _ _ _ _ _ _ _ _).mono ?_)
  rintro e w1 ⟨rfl, hb⟩
  clear s0 s1 s2 s3 s4 s5 s6 s7
  replace S := S.call hb
  replace oat := oat.below hb
  clear hb
  go_wp2_with fail
  (with_reducible refine (K.out _ S.b oat.or).mono ?_)
  rintro e w2 ⟨⟨rfl, oat2, hg2⟩, hk2⟩
  clear K
  replace oat := oat.call hk2 oat2 hg2 (S.lt 0 rfl (by simp))
  replace S := S.via hg2 hg0 (hd.out _ _ _ (by simp) (by simp) (by simp))
  clear hk2 oat2 hg2
  have s0 := S.c 1 0 rfl rfl
  have s1 := S.c 1 1 rfl rfl
  have s2 := S.c 1 2 rfl rfl
  have s3 := S.c 1 3 rfl rfl
  have s4 := S.c 1 4 rfl rfl
  have s5 := S.c 1 5 rfl rfl
  have s6 := S.c 1 6 rfl rfl
  have s7 := S.c 1 7 rfl rfl
  have p0 := S.c 2 0 rfl rfl
  have p1 := S.c 2 1 rfl rfl
  have p2 := S.c 2 2 rfl rfl
  have p3 := S.c 2 3 rfl rfl
  have p4 := S.c 2 4 rfl rfl
  have p5 := S.c 2 5 rfl rfl
  have p6 := S.c 2 6 rfl rfl
  have p7 := S.c 2 7 rfl rfl
  have p8 := S.c 2 8 rfl rfl
  have p9 := S.c 2 9 rfl rfl
  go_wp2_with fail
  (with_reducible refine (L.out _ S.b).mono ?_)
  rintro e w3 ⟨v3, rfl, hR, hb⟩
  clear L
  clear s0 s1 s2 s3 s4 s5 s6 s7
  clear p0 p1 p2 p3 p4 p5 p6 p7 p8 p9
  replace S := S.call hb
  replace oat := oat.below hb
  clear hb
  obtain ⟨A2, c2, B2, d2, rfl, hR'⟩ := id hR
  clear hR'
  replace hag := hag.out
  have hlt9 := S.lt 0 rfl (by simp)
  have S2 := S.new' #[.int .i64 R.node, .int .i64 R.floor, .bool R.is, .int .i64 R.now.o, .int .i64 R.now.s, .int .i64 R.now.a, .bool R.now.ov, .slice A2 R.now.adj.length c2, .slice B2 R.now.pre.length d2, .int .i64 R.since] 34 w3.heap.size _ rfl rfl
  replace oat := oat.below (below_new' _ (.cells #[.int .i64 R.node, .int .i64 R.floor, .bool R.is, .int .i64 R.now.o, .int .i64 R.now.s, .int .i64 R.now.a, .bool R.now.ov, .slice A2 R.now.adj.length c2, .slice B2 R.now.pre.length d2, .int .i64 R.since] 34))
  go_upto_region 5 with fail
  clear S
  generalize World.alloc _ _ = w9 at *
  have S3 := S2.tail
  have p0 := S2.c 0 0 rfl rfl
  have p1 := S2.c 0 1 rfl rfl
  have p2 := S2.c 0 2 rfl rfl
  have p3 := S2.c 0 3 rfl rfl
  have p4 := S2.c 0 4 rfl rfl
  have p5 := S2.c 0 5 rfl rfl
  have p6 := S2.c 0 6 rfl rfl
  have p7 := S2.c 0 7 rfl rfl
  have p8 := S2.c 0 8 rfl rfl
  have p9 := S2.c 0 9 rfl rfl
  have r0 := S3.c 0 0 rfl rfl
  have r1 := S3.c 0 1 rfl rfl
  have r2 := S3.c 0 2 rfl rfl
  have r3 := S3.c 0 3 rfl rfl
  have r4 := S3.c 0 4 rfl rfl
  have r5 := S3.c 0 5 rfl rfl
  have r6 := S3.c 0 6 rfl rfl
  have r7 := S3.c 0 7 rfl rfl
  have r8 := S3.c 0 8 rfl rfl
  have r9 := S3.c 0 9 rfl rfl
  have f0 := S3.f 0 0 rfl rfl
  have f1 := S3.f 0 1 rfl rfl
  have f2 := S3.f 0 2 rfl rfl
  have f3 := S3.f 0 3 rfl rfl
  have f4 := S3.f 0 4 rfl rfl
  have f5 := S3.f 0 5 rfl rfl
  have f6 := S3.f 0 6 rfl rfl
  have f7 := S3.f 0 7 rfl rfl
  have f8 := S3.f 0 8 rfl rfl
  have f9 := S3.f 0 9 rfl rfl
  clear S2 S3
  have hfin : Hid (StepPost W0 w g (.returned (.tuple #[roV R A2 c2 B2 d2, .bool true])) _) :=
    ⟨_, _, _, _, rfl, hR, ((((((((((oat.set hne (by omega) 0 (.int .i64 R.node)).set hne (by omega) 1 (.int .i64 R.floor)).set hne (by omega) 2 (.bool R.is)).set hne (by omega) 3 (.int .i64 R.now.o)).set hne (by omega) 4 (.int .i64 R.now.s)).set hne (by omega) 5 (.int .i64 R.now.a)).set hne (by omega) 6 (.bool R.now.ov)).set hne (by omega) 7 (.slice A2 R.now.adj.length c2)).set hne (by omega) 8 (.slice B2 R.now.pre.length d2)).set hne (by omega) 9 (.int .i64 R.since)).1, hag.1, hag.2.1, hag.2.2, ((((((((((oat.set hne (by omega) 0 (.int .i64 R.node)).set hne (by omega) 1 (.int .i64 R.floor)).set hne (by omega) 2 (.bool R.is)).set hne (by omega) 3 (.int .i64 R.now.o)).set hne (by omega) 4 (.int .i64 R.now.s)).set hne (by omega) 5 (.int .i64 R.now.a)).set hne (by omega) 6 (.bool R.now.ov)).set hne (by omega) 7 (.slice A2 R.now.adj.length c2)).set hne (by omega) 8 (.slice B2 R.now.pre.length d2)).set hne (by omega) 9 (.int .i64 R.since)).2.2⟩
  clear oat
  have m1 : (md == md) = true := by simp
  have m2 : (er == er) = true := by simp
  go_wp2_with fail
  exact bodyPost_ret (v := .tuple #[roV R A2 c2 B2 d2, .bool true]) (by simp [results, Try.results11, go_sem, r0, r1, r2, r3, r4, r5, r6, r7, r8, r9]) rfl hfin.out

set_option maxRecDepth 100000 in
set_option maxHeartbeats 12800000 in
theorem step_hear (W0 w : World) (hB0 : Below W0.heap.size W0 w) (g : Nat) (x : La) (mk : Bool) (v : Value) (r : RO) (kd n : Int) (y : La) (A' : Option Addr) (c' : Nat) (B' : Option Addr) (d' : Nat)
    (hg0 : W0.heap.size ≤ g) (ho : OrAt w g x mk) (hr : RoAt W0 v r) (hy : LaAt W0 (laV y.o y.s y.a y.ov A' y.adj.length c' B' y.pre.length d') y) (hrel : Rel x mk r) (hi : Inv x mk) (hlx : Lens x) (hly : Lens y) (hn : n ≤ 30000) (hk0 : kd = 1) :
    Calls Try.prog 11 #[.pointer (some ⟨g, 0, none⟩), v, .agg #[.int .i64 kd, .int .i64 n, .int .i64 y.o, .int .i64 y.s, .int .i64 y.a, .bool y.ov, .slice A' y.adj.length c', .slice B' y.pre.length d']] w (StepPost W0 w g) := by
  subst hk0
  obtain ⟨A, c, B, d, rfl, hl⟩ := hr
  have S0 : St W0 w [] [] := ⟨hB0, by simp, by simp⟩
  have S := ((S0.new' #[.int .i64 r.node, .int .i64 r.floor, .bool r.is, .int .i64 r.now.o, .int .i64 r.now.s, .int .i64 r.now.a, .bool r.now.ov, .slice A r.now.adj.length c, .slice B r.now.pre.length d, .int .i64 r.since] 34 w.heap.size _ rfl rfl).new' #[.int .i64 1, .int .i64 n, .int .i64 y.o, .int .i64 y.s, .int .i64 y.a, .bool y.ov, .slice A' y.adj.length c', .slice B' y.pre.length d'] 38 (w.heap.size + 1) _ (by simp) rfl).new' #[.int .i64 0, .int .i64 0, .bool false, .int .i64 0, .int .i64 0, .int .i64 0, .bool false, .slice none 0 0, .slice none 0 0, .int .i64 0] 34 (w.heap.size + 2) _ (by simp) rfl
  obtain ⟨i1, i2, i3, i4, i5⟩ := id hi
  have hgl := ho.lt
  have hne : w.heap.size + 2 ≠ g := by omega
  have hf : r.floor = x.s := hrel.2.1
  have hrR : RoAt W0 (roV r A c B d) r := ⟨A, c, B, d, rfl, hl⟩
  have oat : OF w _ g x mk (w.heap.size + 2) := OF.below (OF.below (OF.below (⟨ho, .new ho (by omega), below_grownBy (Below.refl _ _) _, .of_cells rfl rfl⟩ : OF w w g x mk (w.heap.size + 2)) (below_new' _ (.cells #[.int .i64 r.node, .int .i64 r.floor, .bool r.is, .int .i64 r.now.o, .int .i64 r.now.s, .int .i64 r.now.a, .bool r.now.ov, .slice A r.now.adj.length c, .slice B r.now.pre.length d, .int .i64 r.since] 34))) (below_new' _ (.cells #[.int .i64 1, .int .i64 n, .int .i64 y.o, .int .i64 y.s, .int .i64 y.a, .bool y.ov, .slice A' y.adj.length c', .slice B' y.pre.length d'] 38))) (below_new' _ (.cells #[.int .i64 0, .int .i64 0, .bool false, .int .i64 0, .int .i64 0, .int .i64 0, .bool false, .slice none 0 0, .slice none 0 0, .int .i64 0] 34))
  have hW := hB0.size
  clear ho hl S0
  replace hf := Lib.hid hf
  have hd : Hid (∀ u1 u2 u3 : List Value, 0 < u1.length → 0 < u2.length → 0 < u3.length → ∀ x ∈ [(w.heap.size + 2, u3), (w.heap.size + 1, u1), (w.heap.size, u2)], x.1 ≠ g ∧ 0 < x.2.length) := fun u1 u2 u3 h1 h2 h3 x hx => by
    simp only [List.mem_cons, List.not_mem_nil, or_false] at hx
    rcases hx with rfl | rfl | rfl
    · exact ⟨by simp only; omega, h3⟩
    · exact ⟨by simp only; omega, h1⟩
    · exact ⟨by simp only; omega, h2⟩
  have K := fun W (hb : Below W0.heap.size W0 W) (ho : OrAt W g x mk) => ohear_keep W g _ x y mk ho (hy.below hb) (by have := hlx.1; omega) (by have := hlx.2; omega) i1 i2
  have L := fun W (hb : Below W0.heap.size W0 W) => rhear_any W0 W hb _ _ r y hrR hy (by rw [hf.out]; exact i1)
  obtain ⟨z1, hz1⟩ : ∃ z, hearP x mk y = z := ⟨_, rfl⟩
  obtain ⟨z2, hz2⟩ : ∃ z, rhearP r y = z := ⟨_, rfl⟩
  have hag := hear_agree (a := y) hrel hi hlx
  rw [hz1] at K
  rw [hz2] at L
  rw [hz1, hz2] at hag
  obtain ⟨x1, now1, md, er⟩ := z1
  obtain ⟨R, md2, er2⟩ := z2
  obtain ⟨hag1, hmd, her, hag2⟩ := hag
  simp only at hag1 hmd her hag2
  subst hmd her
  have hag := And.intro hag1 hag2
  clear hz1 hz2 hag1 hag2 hrel hi
  replace hag := Lib.hid hag
  unfold OrKeep OrPost at K
  unfold RRPost at L
  simp only at K L
  replace K := Lib.hid K
  replace L := Lib.hid L
  have s0 := S.c 1 0 rfl rfl
  have s1 := S.c 1 1 rfl rfl
  have s2 := S.c 1 2 rfl rfl
  have s3 := S.c 1 3 rfl rfl
  have s4 := S.c 1 4 rfl rfl
  have s5 := S.c 1 5 rfl rfl
  have s6 := S.c 1 6 rfl rfl
  have s7 := S.c 1 7 rfl rfl
  go_enter Try.func11, Try.ntmps11
  clear s0 s1 s2 s3 s4 s5 s6 s7
  have s0 := S.c 1 0 rfl rfl
  have s1 := S.c 1 1 rfl rfl
  have s2 := S.c 1 2 rfl rfl
  have s3 := S.c 1 3 rfl rfl
  have s4 := S.c 1 4 rfl rfl
  have s5 := S.c 1 5 rfl rfl
  have s6 := S.c 1 6 rfl rfl
  have s7 := S.c 1 7 rfl rfl
  go_wp2_with fail
  (with_reducible refine (K.out _ S.b oat.or).mono ?_)
  rintro e w2 ⟨⟨rfl, oat2, hg2⟩, hk2⟩
  clear K
  replace oat := oat.call hk2 oat2 hg2 (S.lt 0 rfl (by simp))
  replace S := S.via hg2 hg0 (hd.out _ _ _ (by simp) (by simp) (by simp))
  clear hk2 oat2 hg2
  clear s0 s1 s2 s3 s4 s5 s6 s7
  have s0 := S.c 1 0 rfl rfl
  have s1 := S.c 1 1 rfl rfl
  have s2 := S.c 1 2 rfl rfl
  have s3 := S.c 1 3 rfl rfl
  have s4 := S.c 1 4 rfl rfl
  have s5 := S.c 1 5 rfl rfl
  have s6 := S.c 1 6 rfl rfl
  have s7 := S.c 1 7 rfl rfl
  have p0 := S.c 2 0 rfl rfl
  have p1 := S.c 2 1 rfl rfl
  have p2 := S.c 2 2 rfl rfl
  have p3 := S.c 2 3 rfl rfl
  have p4 := S.c 2 4 rfl rfl
  have p5 := S.c 2 5 rfl rfl
  have p6 := S.c 2 6 rfl rfl
  have p7 := S.c 2 7 rfl rfl
  have p8 := S.c 2 8 rfl rfl
  have p9 := S.c 2 9 rfl rfl
  go_wp2_with fail
  (with_reducible refine (L.out _ S.b).mono ?_)
  rintro e w3 ⟨v3, rfl, hR, hb⟩
  clear L
  clear s0 s1 s2 s3 s4 s5 s6 s7
  clear p0 p1 p2 p3 p4 p5 p6 p7 p8 p9
  replace S := S.call hb
  replace oat := oat.below hb
  clear hb
  obtain ⟨A2, c2, B2, d2, rfl, hR'⟩ := id hR
  clear hR'
  replace hag := hag.out
  have hlt9 := S.lt 0 rfl (by simp)
  have S2 := S.new' #[.int .i64 R.node, .int .i64 R.floor, .bool R.is, .int .i64 R.now.o, .int .i64 R.now.s, .int .i64 R.now.a, .bool R.now.ov, .slice A2 R.now.adj.length c2, .slice B2 R.now.pre.length d2, .int .i64 R.since] 34 w3.heap.size _ rfl rfl
  replace oat := oat.below (below_new' _ (.cells #[.int .i64 R.node, .int .i64 R.floor, .bool R.is, .int .i64 R.now.o, .int .i64 R.now.s, .int .i64 R.now.a, .bool R.now.ov, .slice A2 R.now.adj.length c2, .slice B2 R.now.pre.length d2, .int .i64 R.since] 34))
  go_upto_region 9 with fail
  clear S
  generalize World.alloc _ _ = w9 at *
  have S3 := S2.tail
  have p0 := S2.c 0 0 rfl rfl
  have p1 := S2.c 0 1 rfl rfl
  have p2 := S2.c 0 2 rfl rfl
  have p3 := S2.c 0 3 rfl rfl
  have p4 := S2.c 0 4 rfl rfl
  have p5 := S2.c 0 5 rfl rfl
  have p6 := S2.c 0 6 rfl rfl
  have p7 := S2.c 0 7 rfl rfl
  have p8 := S2.c 0 8 rfl rfl
  have p9 := S2.c 0 9 rfl rfl
  have r0 := S3.c 0 0 rfl rfl
  have r1 := S3.c 0 1 rfl rfl
  have r2 := S3.c 0 2 rfl rfl
  have r3 := S3.c 0 3 rfl rfl
  have r4 := S3.c 0 4 rfl rfl
  have r5 := S3.c 0 5 rfl rfl
  have r6 := S3.c 0 6 rfl rfl
  have r7 := S3.c 0 7 rfl rfl
  have r8 := S3.c 0 8 rfl rfl
  have r9 := S3.c 0 9 rfl rfl
  have f0 := S3.f 0 0 rfl rfl
  have f1 := S3.f 0 1 rfl rfl
  have f2 := S3.f 0 2 rfl rfl
  have f3 := S3.f 0 3 rfl rfl
  have f4 := S3.f 0 4 rfl rfl
  have f5 := S3.f 0 5 rfl rfl
  have f6 := S3.f 0 6 rfl rfl
  have f7 := S3.f 0 7 rfl rfl
  have f8 := S3.f 0 8 rfl rfl
  have f9 := S3.f 0 9 rfl rfl
  clear S2 S3
  have hfin : Hid (StepPost W0 w g (.returned (.tuple #[roV R A2 c2 B2 d2, .bool true])) _) :=
    ⟨_, _, _, _, rfl, hR, ((((((((((oat.set hne (by omega) 0 (.int .i64 R.node)).set hne (by omega) 1 (.int .i64 R.floor)).set hne (by omega) 2 (.bool R.is)).set hne (by omega) 3 (.int .i64 R.now.o)).set hne (by omega) 4 (.int .i64 R.now.s)).set hne (by omega) 5 (.int .i64 R.now.a)).set hne (by omega) 6 (.bool R.now.ov)).set hne (by omega) 7 (.slice A2 R.now.adj.length c2)).set hne (by omega) 8 (.slice B2 R.now.pre.length d2)).set hne (by omega) 9 (.int .i64 R.since)).1, hag.1, hag.2.1, hag.2.2, ((((((((((oat.set hne (by omega) 0 (.int .i64 R.node)).set hne (by omega) 1 (.int .i64 R.floor)).set hne (by omega) 2 (.bool R.is)).set hne (by omega) 3 (.int .i64 R.now.o)).set hne (by omega) 4 (.int .i64 R.now.s)).set hne (by omega) 5 (.int .i64 R.now.a)).set hne (by omega) 6 (.bool R.now.ov)).set hne (by omega) 7 (.slice A2 R.now.adj.length c2)).set hne (by omega) 8 (.slice B2 R.now.pre.length d2)).set hne (by omega) 9 (.int .i64 R.since)).2.2⟩
  clear oat
  have m1 : (md == md) = true := by simp
  have m2 : (er == er) = true := by simp
  go_wp2_with fail
  exact bodyPost_ret (v := .tuple #[roV R A2 c2 B2 d2, .bool true]) (by simp [results, Try.results11, go_sem, r0, r1, r2, r3, r4, r5, r6, r7, r8, r9]) rfl hfin.out


set_option maxRecDepth 100000 in
set_option maxHeartbeats 12800000 in
theorem step_tick (W0 w : World) (hB0 : Below W0.heap.size W0 w) (g : Nat) (x : La) (mk : Bool) (v : Value) (r : RO) (kd n : Int) (y : La) (A' : Option Addr) (c' : Nat) (B' : Option Addr) (d' : Nat)
    (hg0 : W0.heap.size ≤ g) (ho : OrAt w g x mk) (hr : RoAt W0 v r) (hy : LaAt W0 (laV y.o y.s y.a y.ov A' y.adj.length c' B' y.pre.length d') y) (hrel : Rel x mk r) (hi : Inv x mk) (hlx : Lens x) (hly : Lens y) (hn : n ≤ 30000) (hk0 : kd ≠ 0) (hk1 : kd ≠ 1) :
    Calls Try.prog 11 #[.pointer (some ⟨g, 0, none⟩), v, .agg #[.int .i64 kd, .int .i64 n, .int .i64 y.o, .int .i64 y.s, .int .i64 y.a, .bool y.ov, .slice A' y.adj.length c', .slice B' y.pre.length d']] w (StepPost W0 w g) := by
  have hk2 : (kd == 0) = false := by simpa using hk0
  have hk3 : (kd == 1) = false := by simpa using hk1
  clear hk0 hk1
  obtain ⟨A, c, B, d, rfl, hl⟩ := hr
  have S0 : St W0 w [] [] := ⟨hB0, by simp, by simp⟩
  have S := ((S0.new' #[.int .i64 r.node, .int .i64 r.floor, .bool r.is, .int .i64 r.now.o, .int .i64 r.now.s, .int .i64 r.now.a, .bool r.now.ov, .slice A r.now.adj.length c, .slice B r.now.pre.length d, .int .i64 r.since] 34 w.heap.size _ rfl rfl).new' #[.int .i64 kd, .int .i64 n, .int .i64 y.o, .int .i64 y.s, .int .i64 y.a, .bool y.ov, .slice A' y.adj.length c', .slice B' y.pre.length d'] 38 (w.heap.size + 1) _ (by simp) rfl).new' #[.int .i64 0, .int .i64 0, .bool false, .int .i64 0, .int .i64 0, .int .i64 0, .bool false, .slice none 0 0, .slice none 0 0, .int .i64 0] 34 (w.heap.size + 2) _ (by simp) rfl
  obtain ⟨i1, i2, i3, i4, i5⟩ := id hi
  have hgl := ho.lt
  have hne : w.heap.size + 2 ≠ g := by omega
  have hf : r.floor = x.s := hrel.2.1
  have hrR : RoAt W0 (roV r A c B d) r := ⟨A, c, B, d, rfl, hl⟩
  have oat : OF w _ g x mk (w.heap.size + 2) := OF.below (OF.below (OF.below (⟨ho, .new ho (by omega), below_grownBy (Below.refl _ _) _, .of_cells rfl rfl⟩ : OF w w g x mk (w.heap.size + 2)) (below_new' _ (.cells #[.int .i64 r.node, .int .i64 r.floor, .bool r.is, .int .i64 r.now.o, .int .i64 r.now.s, .int .i64 r.now.a, .bool r.now.ov, .slice A r.now.adj.length c, .slice B r.now.pre.length d, .int .i64 r.since] 34))) (below_new' _ (.cells #[.int .i64 kd, .int .i64 n, .int .i64 y.o, .int .i64 y.s, .int .i64 y.a, .bool y.ov, .slice A' y.adj.length c', .slice B' y.pre.length d'] 38))) (below_new' _ (.cells #[.int .i64 0, .int .i64 0, .bool false, .int .i64 0, .int .i64 0, .int .i64 0, .bool false, .slice none 0 0, .slice none 0 0, .int .i64 0] 34))
  have hW := hB0.size
  clear ho hl S0
  replace hf := Lib.hid hf
  have hd : Hid (∀ u1 u2 u3 : List Value, 0 < u1.length → 0 < u2.length → 0 < u3.length → ∀ x ∈ [(w.heap.size + 2, u3), (w.heap.size + 1, u1), (w.heap.size, u2)], x.1 ≠ g ∧ 0 < x.2.length) := fun u1 u2 u3 h1 h2 h3 x hx => by
    simp only [List.mem_cons, List.not_mem_nil, or_false] at hx
    rcases hx with rfl | rfl | rfl
    · exact ⟨by simp only; omega, h3⟩
    · exact ⟨by simp only; omega, h1⟩
    · exact ⟨by simp only; omega, h2⟩
  have hsb : 0 ≤ r.since ∧ r.since ≤ 3599 := by
    obtain ⟨_, _, _, e4, e5⟩ := hrel
    cases mk with
    | true => rw [(e4 rfl).2]; exact ⟨i3, i4⟩
    | false => rw [(e5 rfl).2]; omega
  have K := fun W (ho : OrAt W g x mk) => otick_keep W g x mk n ho (by omega) i1 i2 i3 i4
  have L := fun W (hb : Below W0.heap.size W0 W) => rtick_any W0 W hb _ r n hrR (by omega) (by rw [hf.out]; exact i1) (by rw [hf.out]; exact i2) hsb.1 hsb.2
  have hag1 := tick_rel x mk r n hrel hi
  have hag2 := tick_inv n hi hlx
  rw [hag1.2] at L
  have hag := And.intro hag1.1 hag2
  clear hag1 hag2 hrel hi hsb
  generalize tickX x mk n = x1 at *
  generalize rtickR r n = R at *
  generalize tickB x mk n = md at *
  replace hag := Lib.hid hag
  unfold TickKeep TickPost at K
  unfold RTPost at L
  replace K := Lib.hid K
  replace L := Lib.hid L
  have s0 := S.c 1 0 rfl rfl
  have s1 := S.c 1 1 rfl rfl
  have s2 := S.c 1 2 rfl rfl
  have s3 := S.c 1 3 rfl rfl
  have s4 := S.c 1 4 rfl rfl
  have s5 := S.c 1 5 rfl rfl
  have s6 := S.c 1 6 rfl rfl
  have s7 := S.c 1 7 rfl rfl
  go_enter Try.func11, Try.ntmps11
  clear s0 s1 s2 s3 s4 s5 s6 s7
  have s0 := S.c 1 0 rfl rfl
  have s1 := S.c 1 1 rfl rfl
  have s2 := S.c 1 2 rfl rfl
  have s3 := S.c 1 3 rfl rfl
  have s4 := S.c 1 4 rfl rfl
  have s5 := S.c 1 5 rfl rfl
  have s6 := S.c 1 6 rfl rfl
  have s7 := S.c 1 7 rfl rfl
  go_wp2_with fail
  (with_reducible refine (K.out _ oat.or).mono ?_)
  rintro e w2 ⟨⟨rfl, oat2, hg2⟩, hk2⟩
  clear K
  replace oat := oat.call hk2 oat2 hg2 (S.lt 0 rfl (by simp))
  replace S := S.via hg2 hg0 (hd.out _ _ _ (by simp) (by simp) (by simp))
  clear hk2 oat2 hg2
  clear s0 s1 s2 s3 s4 s5 s6 s7
  have s0 := S.c 1 0 rfl rfl
  have s1 := S.c 1 1 rfl rfl
  have s2 := S.c 1 2 rfl rfl
  have s3 := S.c 1 3 rfl rfl
  have s4 := S.c 1 4 rfl rfl
  have s5 := S.c 1 5 rfl rfl
  have s6 := S.c 1 6 rfl rfl
  have s7 := S.c 1 7 rfl rfl
  have p0 := S.c 2 0 rfl rfl
  have p1 := S.c 2 1 rfl rfl
  have p2 := S.c 2 2 rfl rfl
  have p3 := S.c 2 3 rfl rfl
  have p4 := S.c 2 4 rfl rfl
  have p5 := S.c 2 5 rfl rfl
  have p6 := S.c 2 6 rfl rfl
  have p7 := S.c 2 7 rfl rfl
  have p8 := S.c 2 8 rfl rfl
  have p9 := S.c 2 9 rfl rfl
  go_wp2_with fail
  (with_reducible refine (L.out _ S.b).mono ?_)
  rintro e w3 ⟨v3, rfl, hR, hb⟩
  clear L
  clear s0 s1 s2 s3 s4 s5 s6 s7
  clear p0 p1 p2 p3 p4 p5 p6 p7 p8 p9
  replace S := S.call hb
  replace oat := oat.below hb
  clear hb
  obtain ⟨A2, c2, B2, d2, rfl, hR'⟩ := id hR
  clear hR'
  replace hag := hag.out
  have hlt9 := S.lt 0 rfl (by simp)
  have S2 := S.new' #[.int .i64 R.node, .int .i64 R.floor, .bool R.is, .int .i64 R.now.o, .int .i64 R.now.s, .int .i64 R.now.a, .bool R.now.ov, .slice A2 R.now.adj.length c2, .slice B2 R.now.pre.length d2, .int .i64 R.since] 34 w3.heap.size _ rfl rfl
  replace oat := oat.below (below_new' _ (.cells #[.int .i64 R.node, .int .i64 R.floor, .bool R.is, .int .i64 R.now.o, .int .i64 R.now.s, .int .i64 R.now.a, .bool R.now.ov, .slice A2 R.now.adj.length c2, .slice B2 R.now.pre.length d2, .int .i64 R.since] 34))
  go_upto_region 12 with fail
  clear S
  generalize World.alloc _ _ = w9 at *
  have S3 := S2.tail
  have p0 := S2.c 0 0 rfl rfl
  have p1 := S2.c 0 1 rfl rfl
  have p2 := S2.c 0 2 rfl rfl
  have p3 := S2.c 0 3 rfl rfl
  have p4 := S2.c 0 4 rfl rfl
  have p5 := S2.c 0 5 rfl rfl
  have p6 := S2.c 0 6 rfl rfl
  have p7 := S2.c 0 7 rfl rfl
  have p8 := S2.c 0 8 rfl rfl
  have p9 := S2.c 0 9 rfl rfl
  have r0 := S3.c 0 0 rfl rfl
  have r1 := S3.c 0 1 rfl rfl
  have r2 := S3.c 0 2 rfl rfl
  have r3 := S3.c 0 3 rfl rfl
  have r4 := S3.c 0 4 rfl rfl
  have r5 := S3.c 0 5 rfl rfl
  have r6 := S3.c 0 6 rfl rfl
  have r7 := S3.c 0 7 rfl rfl
  have r8 := S3.c 0 8 rfl rfl
  have r9 := S3.c 0 9 rfl rfl
  have f0 := S3.f 0 0 rfl rfl
  have f1 := S3.f 0 1 rfl rfl
  have f2 := S3.f 0 2 rfl rfl
  have f3 := S3.f 0 3 rfl rfl
  have f4 := S3.f 0 4 rfl rfl
  have f5 := S3.f 0 5 rfl rfl
  have f6 := S3.f 0 6 rfl rfl
  have f7 := S3.f 0 7 rfl rfl
  have f8 := S3.f 0 8 rfl rfl
  have f9 := S3.f 0 9 rfl rfl
  clear S2 S3
  have hfin : Hid (StepPost W0 w g (.returned (.tuple #[roV R A2 c2 B2 d2, .bool true])) _) :=
    ⟨_, _, _, _, rfl, hR, ((((((((((oat.set hne (by omega) 0 (.int .i64 R.node)).set hne (by omega) 1 (.int .i64 R.floor)).set hne (by omega) 2 (.bool R.is)).set hne (by omega) 3 (.int .i64 R.now.o)).set hne (by omega) 4 (.int .i64 R.now.s)).set hne (by omega) 5 (.int .i64 R.now.a)).set hne (by omega) 6 (.bool R.now.ov)).set hne (by omega) 7 (.slice A2 R.now.adj.length c2)).set hne (by omega) 8 (.slice B2 R.now.pre.length d2)).set hne (by omega) 9 (.int .i64 R.since)).1, hag.1, hag.2.1, hag.2.2, ((((((((((oat.set hne (by omega) 0 (.int .i64 R.node)).set hne (by omega) 1 (.int .i64 R.floor)).set hne (by omega) 2 (.bool R.is)).set hne (by omega) 3 (.int .i64 R.now.o)).set hne (by omega) 4 (.int .i64 R.now.s)).set hne (by omega) 5 (.int .i64 R.now.a)).set hne (by omega) 6 (.bool R.now.ov)).set hne (by omega) 7 (.slice A2 R.now.adj.length c2)).set hne (by omega) 8 (.slice B2 R.now.pre.length d2)).set hne (by omega) 9 (.int .i64 R.since)).2.2⟩
  clear oat
  have m1 : (md == md) = true := by simp
  go_wp2_with fail
  exact bodyPost_ret (v := .tuple #[roV R A2 c2 B2 d2, .bool true]) (by simp [results, Try.results11, go_sem, r0, r1, r2, r3, r4, r5, r6, r7, r8, r9]) rfl hfin.out


end Go.Proofs.Ytfpoghhjpfkbaaa

namespace Go.Proofs.Ytfpoghhjpfkbaaa
set_option linter.unusedVariables false
open Go.RowKit Go.Sort

/-- A step as it lies in memory. -/
structure Sx where
  kd : Int
  n : Int
  y : La
  A : Option Addr
  c : Nat
  B : Option Addr
  d : Nat
def sxL (s : Sx) : List Value := [.int .i64 s.kd, .int .i64 s.n, .int .i64 s.y.o, .int .i64 s.y.s, .int .i64 s.y.a, .bool s.y.ov, .slice s.A s.y.adj.length s.c, .slice s.B s.y.pre.length s.d]
def sxV : List Sx → List Value
  | [] => []
  | s :: l => sxL s ++ sxV l
def SxOk (w : World) (s : Sx) : Prop := LaAt w (laV s.y.o s.y.s s.y.a s.y.ov s.A s.y.adj.length s.c s.B s.y.pre.length s.d) s.y
theorem sxV_len (l : List Sx) : (sxV l).length = l.length * 8 := by
  induction l with
  | nil => rfl
  | cons r l ih => simp only [sxV, sxL, List.length_append, List.length_cons, List.length_nil, ih]; omega
theorem sxV_get (l : List Sx) : ∀ (k : Nat) (hk : k < l.length) (j : Nat) (hj : j < 8), (sxV l)[8 * k + j]? = (sxL l[k])[j]? := by
  induction l with
  | nil => intro k hk; simp at hk
  | cons r l ih =>
    intro k hk j hj
    have h8 : (sxL r).length = 8 := rfl
    cases k with
    | zero => simp only [sxV, List.getElem_cons_zero]; rw [List.getElem?_append_left (by omega)]; simp
    | succ k =>
      simp only [sxV, List.getElem_cons_succ]
      rw [List.getElem?_append_right (by omega), h8, show 8 * (k + 1) + j - 8 = 8 * k + j by omega]
      exact ih k (by simpa using hk) j hj
theorem rd_sx {w : World} {A : Option Addr} {l : List Sx} (h : Rd w A (sxV l)) (hn : 0 < l.length) :
    ∃ b off, A = some ⟨b, off, none⟩ ∧ ∀ k (hk : k < l.length) j (u : Value), j < 8 → (sxL l[k])[j]? = some u → w.cell? ⟨b, off + k * 8 + j, none⟩ = some u := by
  obtain ⟨b, off, e, hc⟩ := rd_at h (by rw [sxV_len]; omega)
  refine ⟨b, off, e, fun k hk j u hj hu => ?_⟩
  rw [Nat.add_assoc]
  exact hc _ _ (by rw [Nat.mul_comm k 8, sxV_get l k hk j hj]; exact hu)

/-- The script is small. -/
def Small (l : List Sx) : Prop := l.length ≤ 15 ∧ ∀ s ∈ l, Lens s.y ∧ s.n ≤ 30000
def FewPost (w : World) (l : List Sx) (e : Ending) (w' : World) : Prop := ∃ b, e = .returned (.bool b) ∧ (b = true → Small l) ∧ Below w.heap.size w w'

set_option maxRecDepth 100000 in
set_option maxHeartbeats 6400000 in
theorem lfew_any (w : World) (A : Option Addr) (n c : Nat) (l : List Sx) (hr : Rd w A (sxV l)) (hn : l.length = n) (hm : n ≤ maxLen) (hok : ∀ s ∈ l, SxOk w s) :
    Calls Try.prog 9 #[.slice A n c] w (FewPost w l) := by
  unfold maxLen at hm
  have S := (St.start w).read hr
  replace hn := Lib.hid hn
  replace hok := Lib.hid hok
  clear hr
  go_enter Try.func9, Try.ntmps9
  go_wp2_with fail
  go_loopw [3, 4] (fun v3 v4 wr => ∃ (k : Nat) (z : Int), v3 = .int .i64 z ∧ v4 = .int .i64 k ∧ k ≤ n ∧ Hid (∀ s ∈ l.take k, Lens s.y ∧ s.n ≤ 30000) ∧ St w wr [] [(A, sxV l)]) (fun _ v4 _ => n - (intOf v4).toNat)
  case atStart => exact ⟨0, 0, rfl, rfl, by omega, fun s hs => by simp at hs, S⟩
  case round =>
    clear S
    obtain ⟨k, z, rfl, rfl, hk, hall, S⟩ := hrel
    by_cases hkn : k < n
    · have hkl : k < l.length := by rw [hn.out]; exact hkn
      obtain ⟨b, off, rfl, hc⟩ := rd_sx (S.r 0 rfl) (by omega)
      have x1 := hc k hkl 1 _ (by omega) rfl
      have x2 := hc k hkl 2 _ (by omega) rfl
      have x3 := hc k hkl 3 _ (by omega) rfl
      have x4 := hc k hkl 4 _ (by omega) rfl
      have x5 := hc k hkl 5 _ (by omega) rfl
      have x6 := hc k hkl 6 _ (by omega) rfl
      have x7 := hc k hkl 7 _ (by omega) rfl
      have hs1 := List.take_succ_eq_append_getElem hkl
      have hsok := hok.out l[k] (List.getElem_mem hkl)
      have hall2 : Lens l[k].y → l[k].n ≤ 30000 → ∀ s ∈ l.take (k + 1), Lens s.y ∧ s.n ≤ 30000 := fun h1 h2 s hs => by
        rw [hs1, List.mem_append, List.mem_singleton] at hs
        rcases hs with hs | rfl
        · exact hall.out s hs
        · exact ⟨h1, h2⟩
      clear hs1 hall
      generalize l[k] = s at *
      obtain ⟨kd, sn, y, A2, c2, B2, d2⟩ := s
      unfold SxOk at hsok
      simp only at hsok hall2 x1 x2 x3 x4 x5 x6 x7
      have FW := few_any _ _ y (hsok.below S.b)
      have hfl : fewB y = true → Lens y := fun h => by simpa [fewB, Lens] using h
      generalize fewB y = f1 at *
      replace FW := Lib.hid FW
      replace hall2 := Lib.hid hall2
      replace hfl := Lib.hid hfl
      clear hc hsok
      go_wp2_with fail
      (with_reducible refine (FW.out).mono ?_)
      rintro e w1 ⟨rfl, hb⟩
      replace S := S.call hb
      have y1 : w1.cell? ⟨b, off + k * 8 + 1, none⟩ = some (.int .i64 sn) := cell_later hb x1
      clear hb FW x1 x2 x3 x4 x5 x6 x7
      cases f1 with
      | false =>
        go_wp2_with fail
        go_ret
        exact ⟨false, rfl, (fun h => by cases h), S.b⟩
      | true =>
      by_cases hsn : 30000 < sn
      · go_wp2_with fail
        go_ret
        exact ⟨false, rfl, (fun h => by cases h), S.b⟩
      have hnx := Lib.hid (hall2.out (hfl.out (by simp)) (by omega))
      clear hall2 hfl
      by_cases hpos : 0 < sn
      all_goals
        go_wp2_with fail
        go_round
        case rel => exact ⟨k + 1, _, rfl, by go_num, by omega, hnx, S⟩
        case measure => simp [intOf]; omega
    · obtain rfl : k = n := by omega
      have hall3 : ∀ s ∈ l, Lens s.y ∧ s.n ≤ 30000 := fun s hs => hall.out s (by rw [List.take_of_length_le (by rw [hn.out]; exact Nat.le_refl _)]; exact hs)
      by_cases h15 : (k : Int) ≤ 15
      · have hsm : Hid (Small l) := ⟨by rw [hn.out]; omega, hall3⟩
        clear hall3 hall
        go_wp2_with fail
        go_ret
        exact ⟨_, rfl, fun _ => hsm.out, S.b⟩
      · clear hall3 hall
        go_wp2_with fail
        go_ret
        exact ⟨false, rfl, (fun h => by cases h), S.b⟩

set_option maxRecDepth 100000 in
set_option maxHeartbeats 3200000 in
theorem rcurrent_ex (w : World) (r : RO) (A : Option Addr) (c : Nat) (B : Option Addr) (d : Nat) :
    Calls Try.prog 14 #[roV r A c B d] w fun e w' => e = .returned (laV (curR r).o (curR r).s (curR r).a (curR r).ov A (curR r).adj.length c B (curR r).pre.length d) ∧ Below w.heap.size w w' := by
  obtain ⟨node, floor, is, now, since⟩ := r
  cases is with
  | true =>
    have S := (((St.start w).new' #[.int .i64 node, .int .i64 floor, .bool true, .int .i64 now.o, .int .i64 now.s, .int .i64 now.a, .bool now.ov, .slice A now.adj.length c, .slice B now.pre.length d, .int .i64 since] 34 w.heap.size _ rfl rfl).new' #[.int .i64 now.o, .int .i64 now.s, .int .i64 since, .bool now.ov, .slice A now.adj.length c, .slice B now.pre.length d] 32 (w.heap.size + 1) _ (by simp) rfl).new' #[.int .i64 now.o, .int .i64 now.s, .int .i64 since, .bool now.ov, .slice A now.adj.length c, .slice B now.pre.length d] 32 (w.heap.size + 2) _ (by simp) rfl
    have r0 := S.c 1 0 rfl rfl
    have r1 := S.c 1 1 rfl rfl
    have r2 := S.c 1 2 rfl rfl
    have r3 := S.c 1 3 rfl rfl
    have r4 := S.c 1 4 rfl rfl
    have r5 := S.c 1 5 rfl rfl
    have hb := S.b
    clear S
    go_enter Try.func14, Try.ntmps14
    go_wp2_with fail
    exact bodyPost_ret (v := laV now.o now.s since now.ov A now.adj.length c B now.pre.length d) (by simp [results, Try.results14, go_sem, r0, r1, r2, r3, r4, r5]) rfl ⟨rfl, hb⟩
  | false =>
    have S := (((St.start w).new' #[.int .i64 node, .int .i64 floor, .bool false, .int .i64 now.o, .int .i64 now.s, .int .i64 now.a, .bool now.ov, .slice A now.adj.length c, .slice B now.pre.length d, .int .i64 since] 34 w.heap.size _ rfl rfl).new' #[.int .i64 now.o, .int .i64 now.s, .int .i64 now.a, .bool now.ov, .slice A now.adj.length c, .slice B now.pre.length d] 32 (w.heap.size + 1) _ (by simp) rfl).new' #[.int .i64 now.o, .int .i64 now.s, .int .i64 now.a, .bool now.ov, .slice A now.adj.length c, .slice B now.pre.length d] 32 (w.heap.size + 2) _ (by simp) rfl
    have r0 := S.c 1 0 rfl rfl
    have r1 := S.c 1 1 rfl rfl
    have r2 := S.c 1 2 rfl rfl
    have r3 := S.c 1 3 rfl rfl
    have r4 := S.c 1 4 rfl rfl
    have r5 := S.c 1 5 rfl rfl
    have hb := S.b
    clear S
    go_enter Try.func14, Try.ntmps14
    go_wp2_with fail
    exact bodyPost_ret (v := laV now.o now.s now.a now.ov A now.adj.length c B now.pre.length d) (by simp [results, Try.results14, go_sem, r0, r1, r2, r3, r4, r5]) rfl ⟨rfl, hb⟩

end Go.Proofs.Ytfpoghhjpfkbaaa

namespace Go.Proofs.Ytfpoghhjpfkbaaa
set_option linter.unusedVariables false
open Go.RowKit Go.ChangeShapes Go.WideShapes Go.ChangeAt

/-- A list of things, each of s cells. -/
def Rep {α : Type} (R : α → List Value → Prop) (s : Nat) : List α → List Value → Prop
  | [], vs => vs = []
  | x :: xs, vs => ∃ c r, vs = c ++ r ∧ R x c ∧ c.length = s ∧ Rep R s xs r

section
variable {α : Type} {R : α → List Value → Prop} {s : Nat}
theorem Rep.length {xs : List α} : ∀ {vs : List Value}, Rep R s xs vs → vs.length = xs.length * s := by
  induction xs with
  | nil => intro vs h; simp [Rep] at h; simp [h]
  | cons x xs ih =>
    rintro vs ⟨c, r, rfl, _, hc, hr⟩
    rw [List.length_append, hc, ih hr, List.length_cons, Nat.add_mul]; omega
theorem Rep.append {xs ys : List α} : ∀ {vs us : List Value}, Rep R s xs vs → Rep R s ys us → Rep R s (xs ++ ys) (vs ++ us) := by
  induction xs with
  | nil => intro vs us h h2; simp [Rep] at h; subst h; simpa using h2
  | cons x xs ih =>
    rintro vs us ⟨c, r, rfl, h1, hc, hr⟩ h2
    exact ⟨c, r ++ us, by simp, h1, hc, ih hr h2⟩
theorem Rep.one {x : α} {c : List Value} (h : R x c) (hc : c.length = s) : Rep R s [x] c := ⟨c, [], by simp, h, hc, rfl⟩
theorem Rep.get {xs : List α} : ∀ {vs : List Value}, Rep R s xs vs → ∀ k (hk : k < xs.length), ∃ c, R xs[k] c ∧ c.length = s ∧ (vs.drop (k * s)).take s = c := by
  induction xs with
  | nil => intro vs _ k hk; simp at hk
  | cons x xs ih =>
    rintro vs ⟨c, r, rfl, h1, hc, hr⟩ k hk
    cases k with
    | zero => exact ⟨c, h1, hc, by simp [← hc]⟩
    | succ k =>
      obtain ⟨c', h2, h3, h4⟩ := ih hr k (by simpa using hk)
      refine ⟨c', by simpa using h2, h3, ?_⟩
      rw [← h4, Nat.add_mul, Nat.one_mul, Nat.add_comm (k * s) s, ← List.drop_drop]
      congr 2
      rw [← hc, List.drop_left]
theorem Rep.drop {xs : List α} : ∀ {vs : List Value}, Rep R s xs vs → ∀ k, Rep R s (xs.drop k) (vs.drop (k * s)) := by
  induction xs with
  | nil => intro vs h k; simp [Rep] at h; simp [h, Rep]
  | cons x xs ih =>
    intro vs h k
    cases k with
    | zero => simpa using h
    | succ k =>
      obtain ⟨c, r, rfl, h1, hc, hr⟩ := h
      have := ih hr k
      rw [Nat.add_mul, Nat.one_mul, Nat.add_comm (k * s) s, List.drop_succ_cons, ← List.drop_drop (l := c ++ r)]
      rw [show (c ++ r).drop s = r from by rw [← hc, List.drop_left]]
      exact this
theorem Rep.take {xs : List α} : ∀ {vs : List Value}, Rep R s xs vs → ∀ k, Rep R s (xs.take k) (vs.take (k * s)) := by
  induction xs with
  | nil => intro vs h k; simp [Rep] at h; simp [h, Rep]
  | cons x xs ih =>
    intro vs h k
    cases k with
    | zero => simp [Rep]
    | succ k =>
      obtain ⟨c, r, rfl, h1, hc, hr⟩ := h
      have := ih hr k
      refine ⟨c, r.take (k * s), ?_, h1, hc, this⟩
      rw [Nat.add_mul, Nat.one_mul, Nat.add_comm (k * s) s, ← hc, List.take_length_add_append]
theorem Rep.mono {R' : α → List Value → Prop} (hR : ∀ x c, R x c → R' x c) {xs : List α} : ∀ {vs : List Value}, Rep R s xs vs → Rep R' s xs vs := by
  induction xs with
  | nil => intro vs h; exact h
  | cons x xs ih =>
    rintro vs ⟨c, r, e, h1, hc, hr⟩
    exact ⟨c, r, e, hR _ _ h1, hc, ih hr⟩
end

/-! ### The relations -/
def IsInt (k : IntKind) (n : Int) (cs : List Value) : Prop := cs = [.int k n] ∧ (Lit.int k n).wf = true
def IsBool (b : Bool) (cs : List Value) : Prop := cs = [.bool b]
def IsU8 (b : UInt8) (cs : List Value) : Prop := cs = [u8v b]
/-- A slice of things of s cells. -/
def IsSlice {α : Type} (w : World) (R : α → List Value → Prop) (s : Nat) (xs : List α) (cs : List Value) : Prop :=
  ∃ A c vs, cs = [.slice A xs.length c] ∧ xs.length ≤ c ∧ c ≤ maxLen ∧ Rep R s xs vs ∧ Rd w A vs
/-- A pair, a triple .. of things that lie one after the other. -/
def IsTwo {α β : Type} (R : α → List Value → Prop) (S : β → List Value → Prop) (x : α × β) (cs : List Value) : Prop := ∃ c d, cs = c ++ d ∧ R x.1 c ∧ S x.2 d
/-- A slice of bytes. -/
def IsBytes (w : World) (bs : List UInt8) (cs : List Value) : Prop := ∃ A c, cs = [.slice A bs.length c] ∧ bs.length ≤ c ∧ c ≤ maxLen ∧ Bs w A bs

theorem rep_u8 {bs : List UInt8} : ∀ {vs : List Value}, Rep IsU8 1 bs vs → vs = bs.map u8v := by
  induction bs with
  | nil => intro vs h; simpa [Rep] using h
  | cons b bs ih =>
    rintro vs ⟨c, r, rfl, h1, _, hr⟩
    rw [ih hr, h1]; rfl
theorem u8_rep (bs : List UInt8) : Rep IsU8 1 bs (bs.map u8v) := by
  induction bs with
  | nil => rfl
  | cons b bs ih => exact ⟨[u8v b], bs.map u8v, rfl, rfl, rfl, ih⟩
theorem IsBytes.of_slice {w : World} {bs : List UInt8} {cs : List Value} (h : IsSlice w IsU8 1 bs cs) : IsBytes w bs cs := by
  obtain ⟨A, c, vs, h1, h2, h3, h4, h5⟩ := h
  exact ⟨A, c, h1, h2, h3, by rw [rep_u8 h4] at h5; exact h5⟩

/-! ### Whatever reads as data stands in the relation -/
def Opens (P : Program) (w : World) (t : TypeId) {α : Type} (R : α → List Value → Prop) : Prop :=
  ∀ {H : Type} {enc : TypeId × Value → H} {base : Nat} {spare : Nat → Bool} {held : Bool} {fuel : Nat} {cs : List Value} {x : DataW H × List MemPlace},
    DataW.trod enc P w base spare held fuel t cs = some x → ∃ a, R a cs ∧ cs.length = P.cellsOf t

section
variable {P : Program} {w : World} {t : TypeId}
theorem opens_int {k : IntKind} (ht : P.underlying t = some (.int k)) (hc : P.cellsOf t = 1) : Opens P w t (IsInt k) := by
  intro H enc base spare held fuel cs x h
  obtain ⟨n, rfl, _, hw⟩ := DataW.trod_int ht h
  exact ⟨n, ⟨rfl, hw⟩, by simp [hc]⟩
theorem opens_bool (ht : P.underlying t = some .bool) (hc : P.cellsOf t = 1) : Opens P w t IsBool := by
  intro H enc base spare held fuel cs x h
  obtain ⟨n, rfl, _⟩ := DataW.trod_bool ht h
  exact ⟨n, rfl, by simp [hc]⟩
theorem opens_u8 (ht : P.underlying t = some (.int .u8)) (hc : P.cellsOf t = 1) : Opens P w t IsU8 := by
  intro H enc base spare held fuel cs x h
  obtain ⟨n, rfl, _, hw⟩ := DataW.trod_int ht h
  obtain ⟨h0, h1⟩ := bounds_u8 hw
  exact ⟨UInt8.ofNat n.toNat, by rw [IsU8, u8_ofInt h0 (by omega)], by simp [hc]⟩
theorem opens_slice {α : Type} {R : α → List Value → Prop} {e : TypeId} (ht : P.underlying t = some (.slice e)) (hc : P.cellsOf t = 1) (hR : Opens P w e R) : Opens P w t (IsSlice w R (P.cellsOf e)) := by
  intro H enc base spare held fuel cs x h
  rcases DataW.trod_slice ht h with ⟨rfl, _⟩ | ⟨a, len, cap, elems, rest, n, _, rfl, _, _, hlc, hcm, hel, hat, _, _⟩
  · exact ⟨[], ⟨none, 0, [], rfl, Nat.le_refl _, Nat.zero_le _, rfl, Rd.nil _ _⟩, by simp [hc]⟩
  · -- each element
    have hone : ∀ i, i < len → ∃ (b : α) (c : List Value), R b c ∧ c.length = P.cellsOf e ∧ ∀ j u, c[j]? = some u → w.cell? (a.add (i * P.cellsOf e + j)) = some u := by
      intro i hi
      have h1 := hat i hi
      rw [List.getElem?_eq_getElem (by omega)] at h1
      obtain ⟨c, hcc, htr⟩ := Option.bind_eq_some_iff.1 h1
      obtain ⟨_, hl, hcell⟩ := World.cells?_some hcc
      obtain ⟨b, hb, _⟩ := hR htr
      refine ⟨b, c, hb, hl, fun j u hu => ?_⟩
      have hj : j < P.cellsOf e := by have := (List.getElem?_eq_some_iff.1 hu).1; omega
      rw [← addr_add_add, hcell j hj, hu]
    have hall : ∀ m, m ≤ len → ∃ (xs : List α) (vs : List Value), xs.length = m ∧ Rep R (P.cellsOf e) xs vs ∧ ∀ j u, vs[j]? = some u → w.cell? (a.add j) = some u := by
      intro m
      induction m with
      | zero => intro _; exact ⟨[], [], rfl, rfl, by simp⟩
      | succ m ih =>
        intro hm
        obtain ⟨xs, vs, hl, hrep, hcl⟩ := ih (by omega)
        obtain ⟨b, c, hb, hl2, hc2⟩ := hone m (by omega)
        refine ⟨xs ++ [b], vs ++ c, by simp [hl], hrep.append (Rep.one hb hl2), fun j u hu => ?_⟩
        have hlv := hrep.length
        rw [hl] at hlv
        rw [List.getElem?_append] at hu
        split at hu
        · exact hcl j u hu
        · have := hc2 _ u hu
          rw [show m * P.cellsOf e + (j - vs.length) = j from by omega] at this
          exact this
    obtain ⟨xs, vs, hl, hrep, hcl⟩ := hall len (Nat.le_refl _)
    exact ⟨xs, ⟨some a, cap, vs, by rw [hl], by omega, hcm, hrep, fun _ => ⟨a, rfl, hcl⟩⟩, by simp [hc]⟩
theorem opens_bytes {e : TypeId} (ht : P.underlying t = some (.slice e)) (hc : P.cellsOf t = 1) (he : P.underlying e = some (.int .u8)) (hce : P.cellsOf e = 1) : Opens P w t (IsBytes w) := by
  intro H enc base spare held fuel cs x h
  obtain ⟨bs, hb, hl⟩ := opens_slice ht hc (opens_u8 he hce) h
  rw [hce] at hb
  exact ⟨bs, IsBytes.of_slice hb, hl⟩
theorem opens_arr2 {α : Type} {R : α → List Value → Prop} {e : TypeId} (ht : P.underlying t = some (.array 2 e)) (hC : P.cellsOf t = 2 * P.cellsOf e) (hR : Opens P w e R) : Opens P w t (IsTwo R R) := by
  intro H enc base spare held fuel cs x h
  obtain ⟨xs, m, _, _, hcl, hl, hi⟩ := DataW.trod_array ht h
  have h0 := hi 0 (by omega)
  have h1 := hi 1 (by omega)
  rw [List.getElem?_eq_getElem (by omega)] at h0 h1
  obtain ⟨a, ra, _⟩ := hR h0
  obtain ⟨b, rb, _⟩ := hR h1
  refine ⟨(a, b), ⟨_, _, ?_, ra, rb⟩, hcl⟩
  simp only [Nat.zero_mul, List.drop_zero, Nat.one_mul]
  rw [List.take_of_length_le (l := cs.drop _) (by rw [List.length_drop]; omega), List.take_append_drop]
theorem opens_struct2 {α β : Type} {R : α → List Value → Prop} {S : β → List Value → Prop} {f g : Field} (ht : P.underlying t = some (.struct #[f, g])) (hf : f.offset = 0) (hg : g.offset = P.cellsOf f.type)
    (hC : P.cellsOf t = P.cellsOf f.type + P.cellsOf g.type) (hR : Opens P w f.type R) (hS : Opens P w g.type S) : Opens P w t (IsTwo R S) := by
  intro H enc base spare held fuel cs x h
  obtain ⟨xs, n, _, _, hcl, hl, hi⟩ := DataW.trod_struct ht h
  simp at hl
  have h0 := hi 0 f rfl
  have h1 := hi 1 g rfl
  rw [List.getElem?_eq_getElem (by omega)] at h0 h1
  obtain ⟨a, ra, _⟩ := hR h0
  obtain ⟨b, rb, _⟩ := hS h1
  refine ⟨(a, b), ⟨_, _, ?_, ra, rb⟩, hcl⟩
  rw [hf, hg, List.drop_zero]
  rw [List.take_of_length_le (l := cs.drop _) (by rw [List.length_drop]; omega), List.take_append_drop]
end

/-- An argument of one cell. -/
theorem arg_one {v u : Value} (h : v.cells.toList = [u]) (hv : ∀ cs, v ≠ .agg cs) : v = u := by
  cases v <;> simp_all [Value.cells]

end Go.Proofs.Ytfpoghhjpfkbaaa

namespace Go.Proofs.Ytfpoghhjpfkbaaa
open Go.RowKit Go.ChangeShapes Go.WideShapes Go.ChangeAt

theorem frame_own : ownKnob Try.prog.godebug = none := by kernel_rfl
theorem frame_laidOut : laidOutB Try.prog = true := by kernel_rfl

section
variable {H : Type} {enc : TypeId × Value → H} {P : Program} {w : World} {base : Nat} {spare : Nat → Bool} {held : Bool} {r : Reach} {b0 : Nat} {t : TypeId} {v : Value} {d : DataW H} {ps : List MemPlace}

theorem arg_slice {α : Type} {R : α → List Value → Prop} {e : TypeId} (ht : P.underlying t = some (.slice e)) (hO : Opens P w t R) (hv : Value.okWide P w r b0 t v) (h : DataW.Trod enc P w base spare held t v d ps) :
    ∃ (A : Option Addr) (n c : Nat) (x : α), v = .slice A n c ∧ R x [.slice A n c] := by
  obtain ⟨A, n, c, rfl⟩ := okWide_slice ht hv
  obtain ⟨fuel, hf⟩ := h
  obtain ⟨x, hx, _⟩ := hO hf
  exact ⟨A, n, c, x, rfl, hx⟩

theorem arg_bytes {e : TypeId} (ht : P.underlying t = some (.slice e)) (hc : P.cellsOf t = 1) (he : P.underlying e = some (.int .u8)) (hce : P.cellsOf e = 1) (hv : Value.okWide P w r b0 t v)
    (h : DataW.Trod enc P w base spare held t v d ps) : ∃ (A : Option Addr) (n c : Nat) (bs : List UInt8), v = .slice A n c ∧ Bs w A bs ∧ bs.length = n ∧ n ≤ maxLen := by
  obtain ⟨A, n, c, bs, rfl, A', c', h1, h2, h3, h4⟩ := arg_slice ht (opens_bytes ht hc he hce) hv h
  simp only [List.cons.injEq, Value.slice.injEq, and_true] at h1
  obtain ⟨rfl, rfl, rfl⟩ := h1
  exact ⟨A, _, c, bs, rfl, h4, rfl, Nat.le_trans h2 h3⟩

theorem arg_bytesc {e : TypeId} (ht : P.underlying t = some (.slice e)) (hc : P.cellsOf t = 1) (he : P.underlying e = some (.int .u8)) (hce : P.cellsOf e = 1) (hv : Value.okWide P w r b0 t v)
    (h : DataW.Trod enc P w base spare held t v d ps) : ∃ (A : Option Addr) (n c : Nat) (bs : List UInt8), v = .slice A n c ∧ Bs w A bs ∧ bs.length = n ∧ n ≤ c ∧ c ≤ maxLen := by
  obtain ⟨A, n, c, bs, rfl, A', c', h1, h2, h3, h4⟩ := arg_slice ht (opens_bytes ht hc he hce) hv h
  simp only [List.cons.injEq, Value.slice.injEq, and_true] at h1
  obtain ⟨rfl, rfl, rfl⟩ := h1
  exact ⟨A, _, c, bs, rfl, h4, rfl, h2, h3⟩

theorem arg_arr {α : Type} {R : α → List Value → Prop} {n : Nat} {e : TypeId} (ht : P.underlying t = some (.array n e)) (hO : Opens P w t R) (hv : Value.okWide P w r b0 t v) (h : DataW.Trod enc P w base spare held t v d ps) :
    ∃ (cs : List Value) (x : α), v = .agg cs.toArray ∧ R x cs := by
  simp only [Value.okWide, ht] at hv
  obtain ⟨cs, rfl, _⟩ := hv
  obtain ⟨fuel, hf⟩ := h
  obtain ⟨x, hx, _⟩ := hO hf
  exact ⟨cs.toList, x, by simp, hx⟩

theorem arg_struct {α : Type} {R : α → List Value → Prop} {fs : Array Field} (ht : P.underlying t = some (.struct fs)) (hO : Opens P w t R) (hv : Value.okWide P w r b0 t v) (h : DataW.Trod enc P w base spare held t v d ps) :
    ∃ (cs : List Value) (x : α), v = .agg cs.toArray ∧ R x cs := by
  obtain ⟨cs, rfl, _⟩ := okWide_struct ht hv
  obtain ⟨fuel, hf⟩ := h
  obtain ⟨x, hx, _⟩ := hO hf
  exact ⟨cs.toList, x, by simp, hx⟩

theorem arg_ints2 {k : IntKind} {e : TypeId} (ht : P.underlying t = some (.array 2 e)) (hC : P.cellsOf t = 2 * P.cellsOf e) (he : P.underlying e = some (.int k)) (hce : P.cellsOf e = 1) (hv : Value.okWide P w r b0 t v)
    (h : DataW.Trod enc P w base spare held t v d ps) : ∃ a b, v = .agg #[.int k a, .int k b] ∧ (Lit.int k a).wf = true ∧ (Lit.int k b).wf = true := by
  obtain ⟨cs, x, rfl, c, d', rfl, ⟨rfl, h1⟩, ⟨rfl, h2⟩⟩ := arg_arr ht (opens_arr2 ht hC (opens_int he hce)) hv h
  exact ⟨x.1, x.2, rfl, h1, h2⟩
end

end Go.Proofs.Ytfpoghhjpfkbaaa

namespace Go.Proofs.Ytfpoghhjpfkbaaa
set_option linter.unusedVariables false
open Go.RowKit Go.ChangeShapes Go.WideShapes Go.ChangeAt

section
variable {P : Program} {w : World} {t : TypeId}
theorem len1 {a : List Value} (h : a.length = 1) : ∃ v, a = [v] := by
  match a, h with
  | [v], _ => exact ⟨v, rfl⟩
/-- A struct of three fields of a cell each. -/
theorem opens_struct3 {α β γ : Type} {R : α → List Value → Prop} {S : β → List Value → Prop} {T : γ → List Value → Prop} {f g h : Field} (ht : P.underlying t = some (.struct #[f, g, h])) (hf : f.offset = 0) (hg : g.offset = 1) (hh : h.offset = 2)
    (cf : P.cellsOf f.type = 1) (cg : P.cellsOf g.type = 1) (ch : P.cellsOf h.type = 1) (hC : P.cellsOf t = 3) (hR : Opens P w f.type R) (hS : Opens P w g.type S) (hT : Opens P w h.type T) :
    Opens P w t (fun (x : α × β × γ) cs => ∃ a b c, cs = [a, b, c] ∧ R x.1 [a] ∧ S x.2.1 [b] ∧ T x.2.2 [c]) := by
  intro H enc base spare held fuel cs x hx
  obtain ⟨xs, n, _, _, hcl, hl, hi⟩ := DataW.trod_struct ht hx
  simp at hl
  have h0 := hi 0 f rfl
  have h1 := hi 1 g rfl
  have h2 := hi 2 h rfl
  rw [List.getElem?_eq_getElem (by omega)] at h0 h1 h2
  rw [hC] at hcl
  match cs, hcl with
  | [a, b, c], _ =>
    rw [hf, cf] at h0
    rw [hg, cg] at h1
    rw [hh, ch] at h2
    obtain ⟨p, rp, _⟩ := hR h0
    obtain ⟨q, rq, _⟩ := hS h1
    obtain ⟨r, rr, _⟩ := hT h2
    exact ⟨(p, q, r), ⟨a, b, c, rfl, rp, rq, rr⟩, by simp [hC]⟩
theorem opens_struct6 {α0 α1 α2 α3 α4 α5 : Type} {R0 : α0 → List Value → Prop} {R1 : α1 → List Value → Prop} {R2 : α2 → List Value → Prop} {R3 : α3 → List Value → Prop} {R4 : α4 → List Value → Prop} {R5 : α5 → List Value → Prop} {f0 f1 f2 f3 f4 f5 : Field}
    (ht : P.underlying t = some (.struct #[f0, f1, f2, f3, f4, f5])) (o0 : f0.offset = 0) (o1 : f1.offset = 1) (o2 : f2.offset = 2) (o3 : f3.offset = 3) (o4 : f4.offset = 4) (o5 : f5.offset = 5)
    (c0 : P.cellsOf f0.type = 1) (c1 : P.cellsOf f1.type = 1) (c2 : P.cellsOf f2.type = 1) (c3 : P.cellsOf f3.type = 1) (c4 : P.cellsOf f4.type = 1) (c5 : P.cellsOf f5.type = 1) (hC : P.cellsOf t = 6)
    (h0 : Opens P w f0.type R0) (h1 : Opens P w f1.type R1) (h2 : Opens P w f2.type R2) (h3 : Opens P w f3.type R3) (h4 : Opens P w f4.type R4) (h5 : Opens P w f5.type R5) :
    Opens P w t (fun (x : α0 × α1 × α2 × α3 × α4 × α5) cs => ∃ v0 v1 v2 v3 v4 v5, cs = [v0, v1, v2, v3, v4, v5] ∧ R0 x.1 [v0] ∧ R1 x.2.1 [v1] ∧ R2 x.2.2.1 [v2] ∧ R3 x.2.2.2.1 [v3] ∧ R4 x.2.2.2.2.1 [v4] ∧ R5 x.2.2.2.2.2 [v5]) := by
  intro H enc base spare held fuel cs x hx
  obtain ⟨xs, n, _, _, hcl, hl, hi⟩ := DataW.trod_struct ht hx
  simp at hl
  have e0 := hi 0 f0 rfl
  have e1 := hi 1 f1 rfl
  have e2 := hi 2 f2 rfl
  have e3 := hi 3 f3 rfl
  have e4 := hi 4 f4 rfl
  have e5 := hi 5 f5 rfl
  rw [List.getElem?_eq_getElem (by omega)] at e0 e1 e2 e3 e4 e5
  rw [hC] at hcl
  match cs, hcl with
  | [v0, v1, v2, v3, v4, v5], _ =>
    rw [o0, c0] at e0
    rw [o1, c1] at e1
    rw [o2, c2] at e2
    rw [o3, c3] at e3
    rw [o4, c4] at e4
    rw [o5, c5] at e5
    obtain ⟨p0, r0, _⟩ := h0 e0
    obtain ⟨p1, r1, _⟩ := h1 e1
    obtain ⟨p2, r2, _⟩ := h2 e2
    obtain ⟨p3, r3, _⟩ := h3 e3
    obtain ⟨p4, r4, _⟩ := h4 e4
    obtain ⟨p5, r5, _⟩ := h5 e5
    exact ⟨(p0, p1, p2, p3, p4, p5), ⟨v0, v1, v2, v3, v4, v5, rfl, r0, r1, r2, r3, r4, r5⟩, by simp [hC]⟩
end

/-- The cells of adjacencies, of prefixes. -/
theorem rep_adj {xs : List (Int × Int × Int)} : ∀ {vs : List Value}, Rep (fun (x : Int × Int × Int) cs => ∃ a b c, cs = [a, b, c] ∧ IsInt .i64 x.1 [a] ∧ IsInt .i64 x.2.1 [b] ∧ IsInt .i64 x.2.2 [c]) 3 xs vs → vs = adV xs := by
  induction xs with
  | nil => intro vs h; exact h
  | cons x t ih =>
    rintro vs ⟨c, q, rfl, ⟨a1, a2, a3, rfl, ⟨e1, _⟩, ⟨e2, _⟩, ⟨e3, _⟩⟩, _, hr⟩
    rw [ih hr]
    simp only [List.cons.injEq, and_true] at e1 e2 e3
    subst e1 e2 e3
    rfl
theorem rep_pre {xs : List (Int × Int)} : ∀ {vs : List Value}, Rep (IsTwo (IsInt .u32) (IsInt .i64)) 2 xs vs → ∃ l : List Pf, vs = pfV l ∧ l.length = xs.length ∧ ∀ p ∈ l, p.1 < 4294967296 := by
  induction xs with
  | nil => intro vs h; exact ⟨[], h, rfl, by simp⟩
  | cons x t ih =>
    rintro vs ⟨c, q, rfl, ⟨c1, c2, rfl, ⟨rfl, w1⟩, ⟨rfl, _⟩⟩, _, hr⟩
    obtain ⟨l, rfl, hl, hok⟩ := ih hr
    obtain ⟨b0, b1⟩ := bounds_u32 w1
    refine ⟨(x.1.toNat, x.2) :: l, ?_, by simp [hl], fun p hp => ?_⟩
    · simp only [pfV, List.cons_append, List.nil_append]
      rw [Int.toNat_of_nonneg b0]
    · rcases List.mem_cons.1 hp with rfl | hp
      · simp only; omega
      · exact hok p hp

section
variable {H : Type} {enc : TypeId × Value → H} {w : World} {base : Nat} {spare : Nat → Bool} {held : Bool} {r : Reach} {b0 : Nat} {v : Value} {d : DataW H} {ps : List MemPlace}
/-- A struct of an advertisement's cells. -/
def IsLa (w : World) (x : La) (cs : List Value) : Prop := LaAt w (.agg cs.toArray) x ∧ cs.length = 6
theorem opens_la (w : World) : Opens Try.prog w 32 (IsLa w) := by
  have OA : Opens Try.prog w 71 _ := opens_struct3 (w := w) Try.underlying71 rfl rfl rfl (by kernel_rfl) (by kernel_rfl) (by kernel_rfl) (by kernel_rfl) (opens_int Try.underlying3 (by kernel_rfl)) (opens_int Try.underlying3 (by kernel_rfl)) (opens_int Try.underlying3 (by kernel_rfl))
  have OP : Opens Try.prog w 74 _ := opens_struct2 (w := w) Try.underlying74 rfl (by kernel_rfl) (by kernel_rfl) (opens_int Try.underlying72 (by kernel_rfl)) (opens_int Try.underlying3 (by kernel_rfl))
  have O : Opens Try.prog w 32 _ := opens_struct6 (w := w) Try.underlying32 rfl rfl rfl rfl rfl rfl (by kernel_rfl) (by kernel_rfl) (by kernel_rfl) (by kernel_rfl) (by kernel_rfl) (by kernel_rfl) (by kernel_rfl)
    (opens_int Try.underlying3 (by kernel_rfl)) (opens_int Try.underlying3 (by kernel_rfl)) (opens_int Try.underlying3 (by kernel_rfl)) (opens_bool Try.underlying4 (by kernel_rfl))
    (opens_slice Try.underlying29 (by kernel_rfl) OA) (opens_slice Try.underlying30 (by kernel_rfl) OP)
  intro H enc base spare held fuel cs x hx
  obtain ⟨⟨p0, p1, p2, p3, xs, ys⟩, ⟨v0, v1, v2, v3, v4, v5, rfl, ⟨e0, _⟩, ⟨e1, _⟩, ⟨e2, _⟩, e3, ⟨A, c, vs, e4, l1, l2, r1, rd1⟩, ⟨B, d, us, e5, l3, l4, r2, rd2⟩⟩, hl⟩ := O hx
  rw [show Try.prog.cellsOf 71 = 3 from by kernel_rfl] at r1
  rw [show Try.prog.cellsOf 74 = 2 from by kernel_rfl] at r2
  obtain rfl := rep_adj r1
  obtain ⟨l, rfl, hll, hlok⟩ := rep_pre r2
  unfold IsBool at e3
  simp only [List.cons.injEq, and_true] at e0 e1 e2 e3 e4 e5
  subst e0 e1 e2 e3 e4 e5
  simp only at l1 l3 hll ⊢
  refine ⟨⟨p0, p1, p2, p3, xs, l⟩, ⟨⟨A, c, B, d, ?_, rd1, rd2, l1, l2, by simp only; omega, l4, hlok⟩, rfl⟩, hl⟩
  simp only [hll]
set_option maxRecDepth 100000 in
theorem arg_la (hv : Value.okWide Try.prog w r b0 32 v) (h : DataW.Trod enc Try.prog w base spare held 32 v d ps) : ∃ x, LaAt w v x := by
  obtain ⟨cs, x, rfl, hx, _⟩ := arg_struct Try.underlying32 (opens_la w) hv h
  exact ⟨x, hx⟩
end

end Go.Proofs.Ytfpoghhjpfkbaaa
